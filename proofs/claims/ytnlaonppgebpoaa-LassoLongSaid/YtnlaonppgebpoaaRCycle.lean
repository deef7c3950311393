/-
  ref19's Cycle. (Written by gen_rcycle.py.)
-/
import Derived.Test.YtnlaonppgebpoaaLassoCyc
namespace Go.Proofs.Ytnlaonppgebpoaa
open Go.RowKit

def rstep (g : Gr) (en : List (List Bool)) (mode : Int) (inl : List Bool) (s : Int × List Int) (a : Nat) : Int × List Int :=
  if (goalL g en mode inl a).1 < 0 then s else
    if 0 ≤ (goalL g en mode inl a).2 then ((goalL g en mode inl a).2, (s.2 ++ (insL g inl s.1 (goalL g en mode inl a).1).getD []) ++ [(a : Int)]) else ((goalL g en mode inl a).1, s.2 ++ (insL g inl s.1 (goalL g en mode inl a).1).getD [])
def rwkA (g : Gr) (en : List (List Bool)) (mode : Int) (inl : List Bool) (home : Int) : Nat → Int × List Int
  | 0 => (home, [])
  | k + 1 => rstep g en mode inl (rwkA g en mode inl home k) k
def rcycL (g : Gr) (en : List (List Bool)) (mode : Int) (inl : List Bool) (home : Int) (A : Nat) : List Int := (rwkA g en mode inl home A).2 ++ (insL g inl (rwkA g en mode inl home A).1 home).getD []
structure RkOk (g : Gr) (en : List (List Bool)) (mode : Int) (inl : List Bool) (home : Int) (A : Nat) : Prop where
  st : ∀ k, k ≤ A → inB inl (rwkA g en mode inl home k).1 = true ∧ 0 ≤ (rwkA g en mode inl home k).1 ∧ (rwkA g en mode inl home k).2.length ≤ k * 100001
  goal : ∀ k, k < A → (goalL g en mode inl k).1 < 0 ∨ (inB inl (goalL g en mode inl k).1 = true ∧ 0 ≤ (goalL g en mode inl k).1)
def MR.ints (l : List Int) : MR := ⟨fun v w => IntsAt w v l, fun _ _ _ hb h => h.below hb⟩
def MR.pairI (l : List Int) (b : Bool) : MR := ⟨fun v w => ∃ pv, v = .tuple #[pv, .bool b] ∧ IntsAt w pv l, fun _ _ _ hb ⟨pv, e, h⟩ => ⟨pv, e, h.below hb⟩⟩

set_option maxRecDepth 100000 in
set_option maxHeartbeats 64000000 in
theorem rcycle_yes (v u pv : Value) (g : Gr) (en : List (List Bool)) (A : Nat) (mode : Int) (part : List Int) (w : World) (h : GraphAt w v g) (hu : BRowsAt w u en) (hp : IntsAt w pv part) (hl : part.length ≤ 1000000) (hn : nodesN g ≤ 100000) (hne : 0 < part.length)
    (hgood : goodB g en (A : Nat) mode part = true) (hW : RkOk g en mode (maskL (nodesN g) part) (leastL part) A) (hhome : inB (maskL (nodesN g) part) (leastL part) = true ∧ 0 ≤ leastL part) :
    Calls Try.prog 69 #[v, u, .int .i64 (A : Nat), .int .i64 mode, pv] w fun e w' => ∃ rv, e = .returned (.tuple #[rv, .bool true]) ∧ w'.ownsRow w.heap.size 3 1 rv (rcycL g en mode (maskL (nodesN g) part) (leastL part) A).length ((rcycL g en mode (maskL (nodesN g) part) (leastL part) A).map (Value.int .i64)) ∧ Below w.heap.size w w' := by
  obtain ⟨hRT, hOk, -, -⟩ := goodB_iff.1 hgood
  have hR := hRT.right
  have hlen := hRT.len
  have hA : A ≤ 100 := by have := hRT.h1; omega
  have hrows : ∀ i, i < en.length → (en.getD i []).length = A := fun i hi => by have := hRT.rows i hi; omega
  have hal : (allL g).length ≤ 1000000 := by rw [allL_len hR]; exact h.sT
  obtain ⟨sa, aa, ta, sc, ac, tc, rfl, -⟩ := h.var
  have HU := Lib.hid hu
  have HPA := Lib.hid hp
  obtain ⟨ua, uc, rfl, -⟩ := hu
  obtain ⟨pa, pc, rfl, -⟩ := hp
  have hb := balloc w (.cells #[.slice sa g.S.length sc, .slice aa g.A.length ac, .slice ta g.T.length tc] 26)
  have B0 := Lib.hid hb
  have X0 := Lib.hid (heap_alloc_new w (.cells #[.slice sa g.S.length sc, .slice aa g.A.length ac, .slice ta g.T.length tc] 26))
  have HG := Lib.hid (fun (w' : World) (hb : Below w.heap.size w w') => (by have := rgood_ok _ _ _ g en (A : Nat) mode part w' (h.below hb) (HU.out.below hb) (HPA.out.below hb) hl hn; rwa [hgood] at this : Calls Try.prog 62 #[.agg #[.slice sa g.S.length sc, .slice aa g.A.length ac, .slice ta g.T.length tc], .slice ua en.length uc, .int .i64 (A : Nat), .int .i64 mode, .slice pa part.length pc] w' fun e w2 => e = .returned (.bool true) ∧ Below w'.heap.size w' w2))
  have HLE := Lib.hid (fun (w' : World) (hb : Below w.heap.size w w') => rleast_ok _ part w' (HPA.out.below hb) hne hl)
  obtain ⟨N, hN⟩ : ∃ N, nodesN g = N := ⟨_, rfl⟩
  rw [hN] at hW hhome hn hlen ⊢
  have HMK := Lib.hid (fun (w' : World) (hb : Below w.heap.size w w') => rmask_ok _ part N w' (HPA.out.below hb) (by have := hOk.2; rwa [hN] at this) hn hl)
  have HML : (maskL N part).length = N := maskL_len _ _
  have hE : ∀ e ∈ allL g, 0 ≤ e.1 ∧ e.1 < ((maskL N part).length : Int) ∧ 0 ≤ e.2.2 ∧ e.2.2 < ((maskL N part).length : Int) := fun e he => by
    have h3 := allL_mem hR he
    have h4 := nodesN_right hR
    rw [HML]; omega
  have HGO := Lib.hid (fun (w' : World) (hb : Below w.heap.size w w') (mv : Value) (hm : BoolsAt w' mv (maskL N part)) (k : Nat) (hk : k < A) => goal_ok _ _ mv g en mode (maskL N part) k A w' (h.below hb) (HU.out.below hb) hm hE (by rw [HML]; omega) hrows hk (by omega) hal)
  have HIS := Lib.hid (fun (w' : World) (hb : Below w.heap.size w w') (mv : Value) (hm : BoolsAt w' mv (maskL N part)) (src tgt : Nat) hs ht => rinside_ok _ mv g (maskL N part) src tgt w' (h.below hb) hm hR (by rw [HML, hN]) (by rw [HML]; exact hn) hs ht)
  have HLN : Hid (∀ (src tgt : Nat), inB (maskL N part) (src : Int) = true → ((insL g (maskL N part) src tgt).getD []).length ≤ 100000) := Lib.hid (fun src tgt hs => by
    have := insL_len g (maskL N part) src tgt hs (by omega)
    rw [HML] at this; omega)
  have WS0 : Hid (∀ k, k ≤ A → ∃ src : Nat, (rwkA g en mode (maskL N part) (leastL part) k).1 = (src : Int) ∧ inB (maskL N part) (src : Int) = true ∧ (rwkA g en mode (maskL N part) (leastL part) k).2.length ≤ 90000000) := Lib.hid (fun k hk => by
    obtain ⟨h1, h2, h3⟩ := hW.st k hk
    have h6 : k * 100001 ≤ 100 * 100001 := Nat.mul_le_mul_right _ (by omega)
    refine ⟨(rwkA g en mode (maskL N part) (leastL part) k).1.toNat, by omega, ?_, by omega⟩
    rw [Int.toNat_of_nonneg h2]; exact h1)
  have WG : Hid (∀ k, k < A → (goalL g en mode (maskL N part) k).1 < 0 ∨ ∃ i : Nat, (goalL g en mode (maskL N part) k).1 = (i : Int) ∧ inB (maskL N part) (i : Int) = true) := Lib.hid (fun k hk => by
    rcases hW.goal k hk with q | ⟨h1, h2⟩
    · exact .inl q
    · exact .inr ⟨(goalL g en mode (maskL N part) k).1.toNat, by omega, by rw [Int.toNat_of_nonneg h2]; exact h1⟩)
  have W1 : Hid (∀ k, (goalL g en mode (maskL N part) k).1 < 0 → rwkA g en mode (maskL N part) (leastL part) (k + 1) = rwkA g en mode (maskL N part) (leastL part) k) := Lib.hid (fun k hk => by rw [rwkA, rstep, if_pos hk])
  have W2 : Hid (∀ k, ¬ (goalL g en mode (maskL N part) k).1 < 0 → 0 ≤ (goalL g en mode (maskL N part) k).2 → rwkA g en mode (maskL N part) (leastL part) (k + 1) = ((goalL g en mode (maskL N part) k).2, ((rwkA g en mode (maskL N part) (leastL part) k).2 ++ (insL g (maskL N part) (rwkA g en mode (maskL N part) (leastL part) k).1 (goalL g en mode (maskL N part) k).1).getD []) ++ [(k : Int)])) := Lib.hid (fun k hk hm => by rw [rwkA, rstep, if_neg hk, if_pos hm])
  have W3 : Hid (∀ k, ¬ (goalL g en mode (maskL N part) k).1 < 0 → ¬ 0 ≤ (goalL g en mode (maskL N part) k).2 → rwkA g en mode (maskL N part) (leastL part) (k + 1) = ((goalL g en mode (maskL N part) k).1, (rwkA g en mode (maskL N part) (leastL part) k).2 ++ (insL g (maskL N part) (rwkA g en mode (maskL N part) (leastL part) k).1 (goalL g en mode (maskL N part) k).1).getD [])) := Lib.hid (fun k hk hm => by rw [rwkA, rstep, if_neg hk, if_neg hm])
  have W0 : Hid (rwkA g en mode (maskL N part) (leastL part) 0 = (leastL part, [])) := Lib.hid rfl
  obtain ⟨home, hhm⟩ : ∃ q : Nat, leastL part = (q : Int) := ⟨(leastL part).toNat, by have := hhome.2; omega⟩
  have HHM := Lib.hid hhome.1
  unfold rcycL
  rw [hhm] at HHM HLE WS0 W0 W1 W2 W3 ⊢
  rw [hlen] at HG HGO
  rw [hlen]
  clear h hb hRT hOk hR hrows hgood hW hhome hN hE HU HPA hne hhm hal HML
  generalize goalL g en mode (maskL N part) = GL at *
  generalize rwkA g en mode (maskL N part) (home : Int) = WW at *
  generalize maskL N part = MK at *
  generalize insL g MK = IL at *
  obtain ⟨n, hnn⟩ : ∃ n, part.length = n := ⟨_, rfl⟩
  rw [hnn] at HG HLE HMK hl
  rw [hnn]
  clear hnn hlen
  go_enter Try.func69, Try.ntmps69
  go_wp2_with (first
    | (go_at_call 102; refine (HLE.out _ B2.out).mono ?_; rintro e w3 ⟨rfl, hb3⟩; have B3 := Lib.hid (B2.out.trans (hb3.mono B2.out.size)); have Y0 := Lib.hid (bheap hb3 (bheap C2.out Z0.out)); have MM := Lib.hid (M2.out.below hb3); clear hb3)
    | (go_at_call 101; refine (HMK.out _ B1.out).mono ?_; rintro e w2 ⟨mv, rfl, hm, hb2⟩; have M2 := Lib.hid hm; have B2 := Lib.hid (B1.out.trans (hb2.mono B1.out.size)); have C2 := Lib.hid hb2; obtain ⟨ma, mc, rfl, -⟩ := hm; clear hb2)
    | (go_at_call 62; refine (HG.out _ B0.out).mono ?_; rintro e w1 ⟨rfl, hb1⟩; have B1 := Lib.hid (B0.out.trans (hb1.mono B0.out.size)); have Z0 := Lib.hid (bheap hb1 X0.out); clear hb1))
  clear B0 B1 B2 X0 Z0 C2 M2 HG HMK
  go_loopg [13, 14, 15] A (fun fu atv ov c wr => ∃ (k m src : Nat), k + fu = A ∧ c = .int .i64 k ∧ atv = .int .i64 (src : Nat) ∧ Hid ((WW k).1 = (src : Int)) ∧ Hid ((WW k).2.length = m) ∧ Hid (wr.ownsRow w3.heap.size 3 1 ov m ((WW k).2.map (Value.int .i64))) ∧ Hid (Below w3.heap.size w3 wr))
  case atStart => exact ⟨0, 0, home, by omega, rfl, rfl, Lib.hid (by rw [W0.out]), Lib.hid (by rw [W0.out]; rfl), Lib.hid (by rw [W0.out]; exact World.ownsRow_nil _ _ _ _), Lib.hid (Below.refl _ _)⟩
  case round =>
    obtain ⟨k, m, src, hk, rfl, rfl, HSR, HM, HO, HB⟩ := hrel
    obtain ⟨oa, oc, rfl⟩ := own_var HO.out
    obtain ⟨src', hs1, hs2, hs3⟩ := WS0.out k (by omega)
    have hee : src = src' := by have := HSR.out; omega
    subst hee
    rw [HM.out] at hs3
    have HS1 := Lib.hid hs2
    clear hs1 hs2
    have hx := bheap HB.out Y0.out
    have c0 := cell_of_block hx 0 _ rfl
    have c1 := cell_of_block hx 1 _ rfl
    have c2 := cell_of_block hx 2 _ rfl
    clear hx
    by_cases hlt : k < A
    · have z1 : (k : Int) < (A : Int) := by omega
      have HC := Lib.hid (HGO.out wr (B3.out.trans (HB.out.mono B3.out.size)) _ (MM.out.below HB.out) k hlt)
      have hg := WG.out k hlt
      have HW1 := Lib.hid (W1.out k)
      have HW2 := Lib.hid (W2.out k)
      have HW3 := Lib.hid (W3.out k)
      generalize GL k = GK at *
      obtain ⟨q1, q2⟩ := GK
      simp only at hg HW1 HW2 HW3 HC
      by_cases hq : q1 < 0
      · have E := Lib.hid (HW1.out (by omega))
        clear hg c0 c1 c2
        have hx := bheap HB.out Y0.out
        have c0 := cell_of_block hx 0 _ rfl
        have c1 := cell_of_block hx 1 _ rfl
        have c2 := cell_of_block hx 2 _ rfl
        clear hx
        go_wp2_with (go_at_call 103; refine HC.out.mono ?_; rintro e w4 ⟨rfl, hb4⟩; have HB4 := Lib.hid (HB.out.trans (hb4.mono HB.out.size)); have O4 := Lib.hid (own_more HO.out hb4); clear hb4)
        go_roundg (A - (k + 1))
        case measure => omega
        case rel => exact ⟨k + 1, m, src, by omega, by simp, rfl, Lib.hid (by rw [E.out]; exact HSR.out), Lib.hid (by rw [E.out]; exact HM.out), Lib.hid (by rw [E.out]; exact O4.out), HB4⟩
      · obtain ⟨i, rfl, hi⟩ : ∃ i : Nat, q1 = (i : Int) ∧ inB MK (i : Int) = true := hg.resolve_left hq
        have HIN := Lib.hid hi
        have hln := HLN.out src i HS1.out
        clear hg hi
        have HLL : Hid ((IL (WW k).1 (i : Int)).getD [] = (IL (src : Int) (i : Int)).getD []) := Lib.hid (by rw [HSR.out])
        have HCI := Lib.hid (fun (w' : World) (hb : Below wr.heap.size wr w') => HIS.out w' (B3.out.trans ((HB.out.trans (hb.mono HB.out.size)).mono B3.out.size)) _ (MM.out.below (HB.out.trans (hb.mono HB.out.size))) src i HS1.out HIN.out)
        by_cases hq2 : 0 ≤ q2
        · have E := Lib.hid (HW2.out (by omega) (by omega))
          obtain ⟨j, rfl⟩ : ∃ j : Nat, q2 = (j : Int) := ⟨q2.toNat, by omega⟩
          rw [HLL.out] at E
          generalize (IL (src : Int) (i : Int)).isSome = FD at *
          generalize (IL (src : Int) (i : Int)).getD [] = LL at *
          clear hq HLL
          go_wp2_with (first
            | (at_builtin; refine wp_iapp (base := w3.heap.size) (n := m + LL.length) (xs := (WW k).2 ++ LL) (O9.out.alloc _) rfl (.tmp 65) (.tmp 67) rfl rfl rfl (ints_box w9 (k : Int)) (m + LL.length + 1) rfl (by omega) (by have := HB9.out.size; simp; omega) ?_; intro a10 c10 w10 hown10 hgr10 hor10 hn10; have HB10 := Lib.hid ((HB9.out.trans ((balloc w9 (.cells #[.int .i64 (k : Nat)] 3)).mono HB9.out.size)).grown hgr10 (by have := HB9.out.size; simp; omega) (fun q hq => (O9.out.lt q hq).1)); have O10 := Lib.hid hown10; clear hown10 hgr10 hor10 hn10)
            | (at_builtin; refine wp_iapp (base := w3.heap.size) (n := m) (xs := (WW k).2) O5.out rfl (.tmp 59) (.tmp 60) rfl rfl rfl HI5.out (m + LL.length) rfl (by omega) HB5.out.size ?_; intro a9 c9 w9 hown9 hgr9 hor9 hn9; have HB9 := Lib.hid (HB5.out.grown hgr9 HB5.out.size (fun q hq => (O5.out.lt q hq).1)); have O9 := Lib.hid hown9; clear hown9 hgr9 hor9 hn9)
            | (go_at_call 104; refine (HCI.out _ BW4.out).mono ?_; rintro e w5 ⟨rv, rfl, hi5, hb5⟩; obtain ⟨ra, rc, rfl, -⟩ := id hi5; have HI5 := Lib.hid hi5; have HB5 := Lib.hid (HB4.out.trans (hb5.mono HB4.out.size)); have O5 := Lib.hid (own_more O4.out hb5); clear hb5 hi5)
            | (go_at_call 103; refine HC.out.mono ?_; rintro e w4 ⟨rfl, hb4⟩; have BW4 := Lib.hid hb4; have HB4 := Lib.hid (HB.out.trans (hb4.mono HB.out.size)); have O4 := Lib.hid (own_more HO.out hb4); have e0 := bkeep hb4 c0; have e1 := bkeep hb4 c1; have e2 := bkeep hb4 c2; clear hb4))
          go_roundg (A - (k + 1))
          case measure => omega
          case rel => exact ⟨k + 1, m + LL.length + 1, j, by omega, by simp, rfl, Lib.hid (by rw [E.out]), Lib.hid (by rw [E.out]; simp only [List.length_append, List.length_singleton]; have := HM.out; omega), Lib.hid (by rw [E.out]; exact O10.out), HB10⟩
        · have E := Lib.hid (HW3.out (by omega) (by omega))
          rw [HLL.out] at E
          generalize (IL (src : Int) (i : Int)).isSome = FD at *
          generalize (IL (src : Int) (i : Int)).getD [] = LL at *
          clear hq HLL
          have hq3 : q2 < 0 := by omega
          go_wp2_with (first
            | (at_builtin; refine wp_iapp (base := w3.heap.size) (n := m) (xs := (WW k).2) O5.out rfl (.tmp 59) (.tmp 60) rfl rfl rfl HI5.out (m + LL.length) rfl (by omega) HB5.out.size ?_; intro a9 c9 w9 hown9 hgr9 hor9 hn9; have HB9 := Lib.hid (HB5.out.grown hgr9 HB5.out.size (fun q hq => (O5.out.lt q hq).1)); have O9 := Lib.hid hown9; clear hown9 hgr9 hor9 hn9)
            | (go_at_call 104; refine (HCI.out _ BW4.out).mono ?_; rintro e w5 ⟨rv, rfl, hi5, hb5⟩; obtain ⟨ra, rc, rfl, -⟩ := id hi5; have HI5 := Lib.hid hi5; have HB5 := Lib.hid (HB4.out.trans (hb5.mono HB4.out.size)); have O5 := Lib.hid (own_more O4.out hb5); clear hb5 hi5)
            | (go_at_call 103; refine HC.out.mono ?_; rintro e w4 ⟨rfl, hb4⟩; have BW4 := Lib.hid hb4; have HB4 := Lib.hid (HB.out.trans (hb4.mono HB.out.size)); have O4 := Lib.hid (own_more HO.out hb4); have e0 := bkeep hb4 c0; have e1 := bkeep hb4 c1; have e2 := bkeep hb4 c2; clear hb4))
          go_roundg (A - (k + 1))
          case measure => omega
          case rel => exact ⟨k + 1, m + LL.length, i, by omega, by simp, rfl, Lib.hid (by rw [E.out]), Lib.hid (by rw [E.out, List.length_append, HM.out]), Lib.hid (by rw [E.out]; exact O9.out), HB9⟩
    · have hkA : A = k := by omega
      subst hkA
      go_wp2_with fail
      refine region_rel (fun _ => undef)
        (fun f => { tmps := #[.agg #[.slice sa g.S.length sc, .slice aa g.A.length ac, .slice ta g.T.length tc], .slice ua N uc, .int .i64 (A : Nat), .int .i64 mode, .slice pa n pc, .pointer (some ⟨w.heap.size, 0, none⟩), undef, undef, undef, undef, .slice none 0 0, .bool false, .slice ma MK.length mc, .int .i64 (src : Nat), .slice oa m oc, .int .i64 (A : Nat), u16, u17, u18, u19, f 20, f 21, .agg #[.slice sa g.S.length sc, .slice aa g.A.length ac, .slice ta g.T.length tc], .slice ua N uc, .int .i64 (A : Nat), .int .i64 mode, .slice pa n pc, .bool true, .bool false, .slice pa n pc, .slice ua N uc, .int .i64 (N : Nat), .slice ma MK.length mc, .slice pa n pc, .int .i64 (home : Nat), .int .i64 (A : Nat), .int .i64 (A : Nat), .bool false, u38, u39, u40, u41, u42, u43, u44, u45, u46, u47, u48, u49, u50, u51, u52, u53, u54, u55, u56, u57, u58, u59, u60, u61, u62, u63, u64, u65, u66, u67, u68, u69, f 70, f 71, f 72, f 73, f 74, f 75, f 76, f 77, f 78, undef, undef, undef, undef], defers := [] }) (fun j => match j with | 6 => 70 | 7 => 77 | 8 => 78 | 9 => 20 | 10 => 21 | j => j + 71)
        (relM [.of (.eq (.agg #[.slice sa g.S.length sc, .slice aa g.A.length ac, .slice ta g.T.length tc])), .of (.eq (.int .i64 (src : Nat))), .of (.eq (.slice pa n pc)), .of (.eq (.int .i64 (home : Nat))), .of (.eq (.slice ma MK.length mc)), .pairI ((IL (src : Int) (home : Int)).getD []) (IL (src : Int) (home : Int)).isSome, .pairI ((IL (src : Int) (home : Int)).getD []) (IL (src : Int) (home : Int)).isSome, .ints ((IL (src : Int) (home : Int)).getD []), .of (.eq (.bool (IL (src : Int) (home : Int)).isSome)), .ints ((IL (src : Int) (home : Int)).getD []), .of (.eq (.bool (IL (src : Int) (home : Int)).isSome))])
        rfl (by kernel_rfl) (fun i u w w' hb h => relM_mono hb h) (by kernel_rfl) (by kernel_rfl) ?_ ?_ ?_
      · intro j hj f v
        rcases j with _ | _ | _ | _ | _ | _ | _ | _ | _ | _ | _ | j
        all_goals first | rfl | (simp at hj; omega)
      · refine ⟨?_, ?_, ?_, ?_, ?_, ?_, ?_, ?_, ?_, ?_, ?_, trivial⟩
        · intro f w' hb hd K hK
          have e0 := bkeep hb c0
          have e1 := bkeep hb c1
          have e2 := bkeep hb c2
          dsimp only
          go_simp
          exact hK (.agg #[.slice sa g.S.length sc, .slice aa g.A.length ac, .slice ta g.T.length tc]) w' (Below.refl _ _) rfl
        · intro f w' hb hd K hK
          dsimp only
          go_simp
          exact hK (.int .i64 (src : Nat)) w' (Below.refl _ _) rfl
        · intro f w' hb hd K hK
          dsimp only
          go_simp
          exact hK (.slice pa n pc) w' (Below.refl _ _) rfl
        · intro f w' hb hd K hK
          have h0 : f 73 = (.slice pa n pc) := hd 2 (by kernel_rfl)
          have HO := Lib.hid (HLE.out w' (B3.out.trans ((HB.out.trans (((Below.refl _ wr).drew.trans hb).mono HB.out.size)).mono B3.out.size)))
          dsimp only
          go_simp
          go_wp2_with (go_at_call 102; refine HO.out.mono ?_; rintro e w2 ⟨rfl, hb2⟩)
          have q := hK (.int .i64 (home : Nat)) w2 hb2 rfl
          simp only [h0] at q
          exact q
        · intro f w' hb hd K hK
          dsimp only
          go_simp
          exact hK (.slice ma MK.length mc) w' (Below.refl _ _) rfl
        · intro f w' hb hd K hK
          have h0 : f 71 = (.agg #[.slice sa g.S.length sc, .slice aa g.A.length ac, .slice ta g.T.length tc]) := hd 0 (by kernel_rfl)
          have h1 : f 72 = (.int .i64 (src : Nat)) := hd 1 (by kernel_rfl)
          have h2 : f 74 = (.int .i64 (home : Nat)) := hd 3 (by kernel_rfl)
          have h3 : f 75 = (.slice ma MK.length mc) := hd 4 (by kernel_rfl)
          have HO := Lib.hid (HIS.out w' (B3.out.trans ((HB.out.trans (((Below.refl _ wr).drew.trans hb).mono HB.out.size)).mono B3.out.size)) _ (MM.out.below (HB.out.trans (((Below.refl _ wr).drew.trans hb).mono HB.out.size))) src home HS1.out HHM.out)
          dsimp only
          go_simp
          go_wp2_with (go_at_call 104; refine HO.out.mono ?_; rintro e w2 ⟨pv, rfl, ho, hb2⟩)
          have q := hK _ w2 hb2 ⟨pv, rfl, ho⟩
          simp only [h0, h1, h2, h3] at q
          exact q
        · intro f w' hb hd K hK
          obtain ⟨pv, h0, ho⟩ : ∃ pv, f 76 = .tuple #[pv, (.bool (IL (src : Int) (home : Int)).isSome)] ∧ IntsAt w' pv ((IL (src : Int) (home : Int)).getD []) := hd 5 (by kernel_rfl)
          dsimp only
          go_simp
          have q := hK _ w' (Below.refl _ _) ⟨pv, rfl, ho⟩
          simp only [h0] at q
          exact q
        · intro f w' hb hd K hK
          obtain ⟨pv, h0, ho⟩ : ∃ pv, f 70 = .tuple #[pv, (.bool (IL (src : Int) (home : Int)).isSome)] ∧ IntsAt w' pv ((IL (src : Int) (home : Int)).getD []) := hd 6 (by kernel_rfl)
          dsimp only
          go_simp
          have q := hK pv w' (Below.refl _ _) ho
          simp only [h0] at q
          exact q
        · intro f w' hb hd K hK
          obtain ⟨pv, h0, ho⟩ : ∃ pv, f 70 = .tuple #[pv, (.bool (IL (src : Int) (home : Int)).isSome)] ∧ IntsAt w' pv ((IL (src : Int) (home : Int)).getD []) := hd 6 (by kernel_rfl)
          dsimp only
          go_simp
          have q := hK (.bool (IL (src : Int) (home : Int)).isSome) w' (Below.refl _ _) rfl
          simp only [h0] at q
          exact q
        · intro f w' hb hd K hK
          have r0 : IntsAt w' (f 77) ((IL (src : Int) (home : Int)).getD []) := hd 7 (by kernel_rfl)
          clear hd
          dsimp only
          go_simp
          exact hK (f 77) w' (Below.refl _ _) r0
        · intro f w' hb hd K hK
          have h0 : f 78 = (.bool (IL (src : Int) (home : Int)).isSome) := hd 8 (by kernel_rfl)
          dsimp only
          go_simp
          have q := hK (.bool (IL (src : Int) (home : Int)).isSome) w' (Below.refl _ _) rfl
          simp only [h0] at q
          exact q
      · intro f w' hb hr
        have r4 : IntsAt w' (f 20) ((IL (src : Int) (home : Int)).getD []) := hr 9 (by decide)
        obtain ⟨ra, rc, e4, -⟩ := id r4
        rw [e4] at r4
        have HI4 := Lib.hid r4
        have HB4 := Lib.hid (HB.out.trans (hb.mono HB.out.size))
        have O4 := Lib.hid (own_more HO.out hb)
        have hl4 := HLN.out src home HS1.out
        have HWL : Hid ((WW A).2.length = m) := HM
        clear hr hb r4 c0 c1 c2
        dsimp only
        rw [e4]
        clear e4
        generalize f 70 = x70
        generalize f 71 = x71
        generalize f 72 = x72
        generalize f 73 = x73
        generalize f 74 = x74
        generalize f 75 = x75
        generalize f 76 = x76
        generalize f 77 = x77
        generalize f 78 = x78
        generalize f 21 = x21
        have HWK := Lib.hid (show (WW A).2 ++ (IL (WW A).1 (home : Int)).getD [] = (WW A).2 ++ (IL (src : Int) (home : Int)).getD [] by rw [HSR.out])
        generalize (IL (src : Int) (home : Int)).getD [] = LL at *
        go_wp2_with (at_builtin; refine wp_iapp (base := w3.heap.size) (n := m) (xs := (WW A).2) O4.out rfl (.tmp 79) (.tmp 80) rfl rfl rfl HI4.out (m + LL.length) rfl (by omega) HB4.out.size ?_; intro a9 c9 w9 hown9 hgr9 hor9 hn9; have HB9 := Lib.hid (HB4.out.grown hgr9 HB4.out.size (fun q hq => (O4.out.lt q hq).1)); have O9 := Lib.hid hown9; clear hown9 hgr9 hor9 hn9)
        refine bodyPost_ret (v := .tuple #[.slice a9 (m + LL.length) c9, .bool true]) (by simp [results, Try.results69, go_sem]) rfl ?_
        exact ⟨_, rfl, by rw [HWK.out, List.length_append, HWL.out]; exact ownsRow_base O9.out B3.out.size, B3.out.trans (HB9.out.mono B3.out.size)⟩
end Go.Proofs.Ytnlaonppgebpoaa
