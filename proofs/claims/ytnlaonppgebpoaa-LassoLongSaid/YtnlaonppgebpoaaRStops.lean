/-
  ref19's Cycle, whatever the part, and Stops. (Written by gen_rstops.py.)
-/
import Derived.Test.YtnlaonppgebpoaaRCycle
namespace Go.Proofs.Ytnlaonppgebpoaa
open Go.RowKit

noncomputable def rcycG (g : Gr) (en : List (List Bool)) (ag mode : Int) (part : List Int) : List Int := if goodB g en ag mode part = true then rcycL g en mode (maskL (nodesN g) part) (leastL part) ag.toNat else []
noncomputable def rstopsG (g : Gr) (en : List (List Bool)) (ag mode : Int) (part : List Int) : List Int := if goodB g en ag mode part = true then (List.range ((rcycG g en ag mode part).length + 1)).map (fun i => folL g (leastL part) ((rcycG g en ag mode part).take i)) else []
/-- what the document's answer asks of a good part -/
structure RdOk (g : Gr) (en : List (List Bool)) (ag mode : Int) (part : List Int) : Prop where
  ok : RkOk g en mode (maskL (nodesN g) part) (leastL part) ag.toNat
  home : inB (maskL (nodesN g) part) (leastL part) = true ∧ 0 ≤ leastL part
  ne : 0 < part.length
  len : (rcycG g en ag mode part).length ≤ 1000000

set_option maxRecDepth 100000 in
set_option maxHeartbeats 16000000 in
theorem rcycle_no (v u pv : Value) (g : Gr) (en : List (List Bool)) (ag mode : Int) (part : List Int) (w : World) (h : GraphAt w v g) (hu : BRowsAt w u en) (hp : IntsAt w pv part) (hl : part.length ≤ 1000000) (hn : nodesN g ≤ 100000) (hgood : goodB g en ag mode part = false) :
    Calls Try.prog 69 #[v, u, .int .i64 ag, .int .i64 mode, pv] w fun e w' => e = .returned (.tuple #[.slice none 0 0, .bool false]) ∧ Below w.heap.size w w' := by
  obtain ⟨sa, aa, ta, sc, ac, tc, rfl, -⟩ := h.var
  have HU := Lib.hid hu
  have HPA := Lib.hid hp
  obtain ⟨ua, uc, rfl, -⟩ := hu
  obtain ⟨pa, pc, rfl, -⟩ := hp
  have hb := balloc w (.cells #[.slice sa g.S.length sc, .slice aa g.A.length ac, .slice ta g.T.length tc] 26)
  have B0 := Lib.hid hb
  have HG := Lib.hid (fun (w' : World) (hb : Below w.heap.size w w') => (by have := rgood_ok _ _ _ g en ag mode part w' (h.below hb) (HU.out.below hb) (HPA.out.below hb) hl hn; rwa [hgood] at this : Calls Try.prog 62 #[.agg #[.slice sa g.S.length sc, .slice aa g.A.length ac, .slice ta g.T.length tc], .slice ua en.length uc, .int .i64 ag, .int .i64 mode, .slice pa part.length pc] w' fun e w2 => e = .returned (.bool false) ∧ Below w'.heap.size w' w2))
  clear h hb HU HPA hgood
  go_enter Try.func69, Try.ntmps69
  go_wp2_with (go_at_call 62; refine (HG.out _ B0.out).mono ?_; rintro e w2 ⟨rfl, hb2⟩; have B1 := Lib.hid (B0.out.trans (hb2.mono B0.out.size)); clear hb2)
  refine bodyPost_ret (v := .tuple #[.slice none 0 0, .bool false]) (by simp [results, Try.results69, go_sem]) rfl ?_
  exact ⟨rfl, B1.out⟩
theorem rcycle_ok (v u pv : Value) (g : Gr) (en : List (List Bool)) (ag mode : Int) (part : List Int) (w : World) (h : GraphAt w v g) (hu : BRowsAt w u en) (hp : IntsAt w pv part) (hl : part.length ≤ 1000000) (hn : nodesN g ≤ 100000) (hW : goodB g en ag mode part = true → RdOk g en ag mode part) :
    Calls Try.prog 69 #[v, u, .int .i64 ag, .int .i64 mode, pv] w fun e w' => ∃ rv, e = .returned (.tuple #[rv, .bool (goodB g en ag mode part)]) ∧ w'.ownsRow w.heap.size 3 1 rv (rcycG g en ag mode part).length ((rcycG g en ag mode part).map (Value.int .i64)) ∧ Below w.heap.size w w' := by
  unfold rcycG
  cases hgood : goodB g en ag mode part
  · refine (rcycle_no v u pv g en ag mode part w h hu hp hl hn hgood).mono ?_
    rintro e w' ⟨rfl, hb⟩
    exact ⟨_, rfl, World.ownsRow_nil _ _ _ _, hb⟩
  · have hag := goodB_nat hgood
    have hw := hW hgood
    rw [hag] at hgood
    have HC := rcycle_yes v u pv g en ag.toNat mode part w h hu hp hl hn hw.ne hgood hw.ok hw.home
    rw [← hag] at HC
    rw [if_pos rfl]
    exact HC
theorem own_cap {w : World} {base : Nat} {e : TypeId} {size n c : Nat} {a : Option Addr} {xs : List Value} (h : w.ownsRow base e size (.slice a n c) n xs) : n ≤ c ∧ c ≤ maxLen := by
  rcases h.2 with ⟨e1, h0⟩ | ⟨g, cap, cur, e1, -, -, h1, h2, -⟩
  · cases e1; exact ⟨Nat.le_refl _, by unfold maxLen; omega⟩
  · cases e1; exact ⟨h1, h2⟩
theorem take_ints {w : World} {ca : Option Addr} {cc cc' i : Nat} {l : List Int} (h : IntsAt w (.slice ca l.length cc) l) (hi : i ≤ l.length) : IntsAt w (.slice ca i cc') (l.take i) := by
  obtain ⟨a, c, e, hcl⟩ := h
  cases e
  have hlen : (l.take i).length = i := by rw [List.length_take]; omega
  refine ⟨ca, cc', by rw [hlen], fun j hj => ?_⟩
  rw [hlen] at hj
  obtain ⟨b, o, e, h1⟩ := hcl j (by omega)
  refine ⟨b, o, e, ?_⟩
  rw [h1]
  simp [List.getD_eq_getElem?_getD, hj]
theorem range_map_succ (f : Nat → Int) (k : Nat) : (List.range (k + 1)).map f = (List.range k).map f ++ [f k] := by rw [List.range_succ, List.map_append]; rfl

set_option maxRecDepth 100000 in
set_option maxHeartbeats 32000000 in
theorem rstops_ok (v u pv : Value) (g : Gr) (en : List (List Bool)) (ag mode : Int) (part : List Int) (w : World) (h : GraphAt w v g) (hu : BRowsAt w u en) (hp : IntsAt w pv part) (hl : part.length ≤ 1000000) (hn : nodesN g ≤ 100000) (hW : goodB g en ag mode part = true → RdOk g en ag mode part) :
    Calls Try.prog 71 #[v, u, .int .i64 ag, .int .i64 mode, pv] w (IntsBack w (rstopsG g en ag mode part)) := by
  obtain ⟨i0, hi0, hz0, hz1, hz2⟩ := info_parts Try.info3
  obtain ⟨sa, aa, ta, sc, ac, tc, rfl, -⟩ := h.var
  have hb := balloc w (.cells #[.slice sa g.S.length sc, .slice aa g.A.length ac, .slice ta g.T.length tc] 26)
  have B0 := Lib.hid hb
  have X0 := Lib.hid (heap_alloc_new w (.cells #[.slice sa g.S.length sc, .slice aa g.A.length ac, .slice ta g.T.length tc] 26))
  have HC := Lib.hid (rcycle_ok _ _ _ g en ag mode part _ (h.below hb) (hu.below hb) (hp.below hb) hl hn hW)
  have HPA := Lib.hid hp
  have HLE := Lib.hid (fun (hne : 0 < part.length) (w' : World) (hb : Below w.heap.size w w') => rleast_ok _ part w' (HPA.out.below hb) hne hl)
  have HFO := Lib.hid (fun (w' : World) (hb : Below w.heap.size w w') (pv : Value) (x : Int) (p : List Int) (hp : IntsAt w' pv p) (hl : p.length ≤ 1000000) => rfol_ok _ pv g x p w' (h.below hb) hp hl)
  obtain ⟨ua, uc, rfl, -⟩ := hu
  obtain ⟨pa, pc, rfl, -⟩ := hp
  unfold rstopsG
  cases hgood : goodB g en ag mode part
  · rw [hgood] at HC
    have E : Hid (rcycG g en ag mode part = []) := Lib.hid (by unfold rcycG; rw [hgood]; rfl)
    rw [E.out] at HC
    clear h hb hW hgood HLE HFO HPA E
    go_enter Try.func71, Try.ntmps71
    go_wp2_with (go_at_call 69; refine HC.out.mono ?_; rintro e w2 ⟨rv, rfl, ho, hb2⟩; obtain ⟨ra, rc, rfl⟩ := own_var ho; have B1 := Lib.hid (B0.out.trans (hb2.mono B0.out.size)); clear hb2 ho)
    go_ret
    exact ⟨_, rfl, intsAt_nil _, B1.out⟩
  · have hw := hW hgood
    rw [hgood] at HC
    have hcl := hw.len
    have HLE2 := Lib.hid (HLE.out hw.ne)
    clear HLE h hb hW hgood hw HPA
    rw [if_pos rfl]
    generalize rcycG g en ag mode part = cl at *
    obtain ⟨FL, hFL⟩ : ∃ f : Nat → Int, ∀ i, f i = folL g (leastL part) (cl.take i) := ⟨fun i => folL g (leastL part) (cl.take i), fun _ => rfl⟩
    have HFL := Lib.hid (fun i => (hFL i).symm)
    simp only [← hFL]
    clear hFL
    have RS := Lib.hid (fun k => range_map_succ FL k)
    have R0 : Hid ((List.range 0).map FL = []) := Lib.hid rfl
    obtain ⟨RM, hRM⟩ : ∃ f : Nat → List Int, ∀ k, f k = (List.range k).map FL := ⟨fun k => (List.range k).map FL, fun _ => rfl⟩
    simp only [← hRM] at RS R0 ⊢
    have RL : Hid (∀ k, (RM k).length = k) := Lib.hid (fun k => by rw [hRM]; simp)
    clear hRM
    generalize leastL part = home at *
    go_enter Try.func71, Try.ntmps71
    go_wp2_with (go_at_call 69; refine HC.out.mono ?_; rintro e w2 ⟨rv, rfl, ho, hb2⟩; have HO := Lib.hid ho; obtain ⟨ca, cc, rfl⟩ := own_var ho; have B1 := Lib.hid (B0.out.trans (hb2.mono B0.out.size)); have Y0 := Lib.hid (bheap hb2 X0.out); clear hb2 ho)
    obtain ⟨hcap, hcm⟩ := own_cap HO.out
    unfold maxLen at hcm
    have HCL := Lib.hid (own_ints HO.out)
    clear HO HC X0 B0
    go_loopg [13, 14] (cl.length + 1) (fun fu ov c wr => ∃ k : Nat, k + fu = cl.length + 1 ∧ c = .int .i64 k ∧ Hid (wr.ownsRow w2.heap.size 3 1 ov k ((RM k).map (Value.int .i64))) ∧ Hid (Below w2.heap.size w2 wr))
    case atStart => exact ⟨0, by omega, rfl, Lib.hid (by rw [R0.out]; exact World.ownsRow_nil _ _ _ _), Lib.hid (Below.refl _ _)⟩
    case round =>
      obtain ⟨k, hk, rfl, HO, HB⟩ := hrel
      obtain ⟨oa, oc, rfl⟩ := own_var HO.out
      by_cases hlt : k ≤ cl.length
      · have z1 : (k : Int) ≤ (cl.length : Int) := by omega
        have hkc : k ≤ cc := by omega
        have hx := bheap HB.out Y0.out
        have c0 := cell_of_block hx 0 _ rfl
        have c1 := cell_of_block hx 1 _ rfl
        have c2 := cell_of_block hx 2 _ rfl
        clear hx
        have HTK := Lib.hid (fun (w' : World) (hb : Below wr.heap.size wr w') => take_ints (cc' := cc) (HCL.out.below (HB.out.trans (hb.mono HB.out.size))) hlt)
        have HTL : Hid ((cl.take k).length ≤ 1000000) := Lib.hid (by rw [List.length_take]; omega)
        have HFK := Lib.hid (HFL.out k)
        have HCF := Lib.hid (fun (w' : World) (hb : Below wr.heap.size wr w') => (by have := HFO.out w' (B1.out.trans ((HB.out.trans (hb.mono HB.out.size)).mono B1.out.size)) _ home (cl.take k) (HTK.out w' hb) HTL.out; rw [HFK.out] at this; exact this : Calls Try.prog 72 #[.agg #[.slice sa g.S.length sc, .slice aa g.A.length ac, .slice ta g.T.length tc], .int .i64 home, .slice ca k cc] w' fun e w2 => e = .returned (.int .i64 (FL k)) ∧ Below w'.heap.size w' w2))
        have HLK := Lib.hid (fun (w' : World) (hb : Below wr.heap.size wr w') => HLE2.out w' (B1.out.trans ((HB.out.trans (hb.mono HB.out.size)).mono B1.out.size)))
        go_wp2_with fail
        refine region_rel_tail 9 (fun q => match q with | 32 => u32 | 33 => u33 | 34 => u34 | 35 => u35 | 36 => u36 | 37 => u37 | 38 => u38 | 39 => u39 | 40 => u40 | _ => undef)
          (fun f => { tmps := #[.agg #[.slice sa g.S.length sc, .slice aa g.A.length ac, .slice ta g.T.length tc], .slice ua en.length uc, .int .i64 ag, .int .i64 mode, .slice pa part.length pc, .pointer (some ⟨w.heap.size, 0, none⟩), undef, undef, undef, undef, .slice none 0 0, .slice ca cl.length cc, .bool true, .slice oa k oc, .int .i64 (k : Nat), .tuple #[.slice ca cl.length cc, .bool true], .agg #[.slice sa g.S.length sc, .slice aa g.A.length ac, .slice ta g.T.length tc], .slice ua en.length uc, .int .i64 ag, .int .i64 mode, .slice pa part.length pc, .tuple #[.slice ca cl.length cc, .bool true], .slice ca cl.length cc, .bool true, .bool true, .bool false, .int .i64 (k : Nat), .slice ca cl.length cc, .int .i64 (cl.length : Nat), .bool true, u30, u31, f 32, f 33, f 34, f 35, f 36, f 37, f 38, f 39, f 40, u41, undef], defers := [] }) (fun j => j + 32)
          (relM [.of (.eq (.slice oa k oc)), .of (.eq (.agg #[.slice sa g.S.length sc, .slice aa g.A.length ac, .slice ta g.T.length tc])), .of (.eq (.slice pa part.length pc)), .of (.eq (.int .i64 home)), .of (.eq (.slice ca cl.length cc)), .of (.eq (.int .i64 (k : Nat))), .of (.eq (.slice ca k cc)), .of (.eq (.int .i64 (FL k))), .one (.int .i64 (FL k)) 3])
          rfl (by kernel_rfl) (by kernel_rfl) (by kernel_rfl) (by decide) (by kernel_rfl) (fun i u w w' hb h => relM_mono hb h) (by kernel_rfl) (by kernel_rfl) ?_ ?_ ?_
        · intro j hj f v
          rcases j with _ | _ | _ | _ | _ | _ | _ | _ | _ | j
          all_goals first | rfl | omega | (simp at hj; omega)
        · refine ⟨?_, ?_, ?_, ?_, ?_, ?_, ?_, ?_, ?_, trivial⟩
          · intro f w' hb hd K hK
            dsimp only
            go_simp
            exact hK (.slice oa k oc) w' (Below.refl _ _) rfl
          · intro f w' hb hd K hK
            have e0 := bkeep hb c0
            have e1 := bkeep hb c1
            have e2 := bkeep hb c2
            dsimp only
            go_simp
            exact hK (.agg #[.slice sa g.S.length sc, .slice aa g.A.length ac, .slice ta g.T.length tc]) w' (Below.refl _ _) rfl
          · intro f w' hb hd K hK
            dsimp only
            go_simp
            exact hK (.slice pa part.length pc) w' (Below.refl _ _) rfl
          · intro f w' hb hd K hK
            have h0 : f 34 = (.slice pa part.length pc) := hd 2 (by kernel_rfl)
            have HO2 := Lib.hid (HLK.out w' ((Below.refl _ wr).drew.trans hb))
            dsimp only
            go_simp
            go_wp2_with (go_at_call 102; refine HO2.out.mono ?_; rintro e w2 ⟨rfl, hb2⟩)
            have q := hK (.int .i64 home) w2 hb2 rfl
            simp only [h0] at q
            exact q
          · intro f w' hb hd K hK
            dsimp only
            go_simp
            exact hK (.slice ca cl.length cc) w' (Below.refl _ _) rfl
          · intro f w' hb hd K hK
            dsimp only
            go_simp
            exact hK (.int .i64 (k : Nat)) w' (Below.refl _ _) rfl
          · intro f w' hb hd K hK
            have h0 : f 36 = (.slice ca cl.length cc) := hd 4 (by kernel_rfl)
            have h1 : f 37 = (.int .i64 (k : Nat)) := hd 5 (by kernel_rfl)
            dsimp only
            go_simp
            have q := hK (.slice ca k cc) w' (Below.refl _ _) rfl
            simp only [h0, h1] at q
            exact q
          · intro f w' hb hd K hK
            have h0 : f 33 = (.agg #[.slice sa g.S.length sc, .slice aa g.A.length ac, .slice ta g.T.length tc]) := hd 1 (by kernel_rfl)
            have h1 : f 35 = (.int .i64 home) := hd 3 (by kernel_rfl)
            have h2 : f 38 = (.slice ca k cc) := hd 6 (by kernel_rfl)
            have HO2 := Lib.hid (HCF.out w' ((Below.refl _ wr).drew.trans hb))
            dsimp only
            go_simp
            go_wp2_with (go_at_call 72; refine HO2.out.mono ?_; rintro e w2 ⟨rfl, hb2⟩)
            have q := hK (.int .i64 (FL k)) w2 hb2 rfl
            simp only [h0, h1, h2] at q
            exact q
          · intro f w' hb hd K hK
            have h0 : f 39 = (.int .i64 (FL k)) := hd 7 (by kernel_rfl)
            dsimp only
            go_simp
            have q := hK _ _ (balloc w' (.cells #[(.int .i64 (FL k))] 3)) ⟨w'.heap.size, rfl, heap_alloc_new w' _⟩
            simp only [h0] at q
            exact q
        intro f w6 hb6 hr6
        have h32 : f 32 = (.slice oa k oc) := hr6 0 (by decide)
        obtain ⟨b6, h40, hbk⟩ : ∃ b, f 40 = .slice (some ⟨b, 0, none⟩) 1 1 ∧ w6.heap[b]? = some (.cells #[(.int .i64 (FL k))] 3 (0, 0)) := hr6 8 (by decide)
        simp only [h32, h40, List.drop_succ_cons, List.drop_zero]
        have O6 := Lib.hid (own_more HO.out hb6)
        have B6 := Lib.hid (HB.out.trans (hb6.mono HB.out.size))
        have NB := Lib.hid hbk
        have hsz := B6.out.size
        clear hb6 hr6 h32 h40 hbk c0 c1 c2
        generalize f 33 = x33
        generalize f 34 = x34
        generalize f 35 = x35
        generalize f 36 = x36
        generalize f 37 = x37
        generalize f 38 = x38
        generalize f 39 = x39
        go_wp2_with (at_builtin; refine wpList_append_lies w6 rfl (.tmp 32) (.tmp 40) 24 rfl w2.heap.size 3 i0 (.int .i64 0) 1 8 Try.underlying24 hi0 hz0 hz1 hz2 rfl (by decide) (.slice oa k oc) k _ rfl O6.out ⟨b6, 0, none⟩ 1 1 [.int .i64 (FL k)] rfl rfl (World.news_of_block NB.out) (by simp [Value.oneCell']) (by omega) (by unfold maxLen; omega) (by omega) hsz w6.heap.size rfl ?_; intro g3 cap3 w8 hown3 hgr3 hor3 hlt3; have O8 := Lib.hid hown3; have B8 := Lib.hid (B6.out.grown hgr3 B6.out.size (fun q hq => (O6.out.lt q hq).1)); clear hown3 hgr3 hor3 hlt3)
        go_roundg (cl.length + 1 - (k + 1))
        case measure => omega
        case rel => exact ⟨k + 1, by omega, by simp, Lib.hid (by rw [RS.out, List.map_append]; exact O8.out), B8⟩
      · have hkk : k = cl.length + 1 := by omega
        have z1 : ¬ (k : Int) ≤ (cl.length : Int) := by omega
        go_wp2_with fail
        go_ret
        subst hkk
        exact ⟨_, rfl, own_ints (by rw [RL.out]; exact HO.out), B1.out.trans (HB.out.mono B1.out.size)⟩
end Go.Proofs.Ytnlaonppgebpoaa
