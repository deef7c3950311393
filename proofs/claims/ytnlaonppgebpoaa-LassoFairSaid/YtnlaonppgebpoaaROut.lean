/-
  The reference's Out and All. The reference's All.
-/
import Derived.Test.YtnlaonppgebpoaaOut
import Derived.Deep.RegionLaw
namespace Go.Proofs.Ytnlaonppgebpoaa
open Go.RowKit

theorem rapp_step {w1 wr : World} {v : Value} {l : List Ed} (hb : Below w1.heap.size w1 wr) {n : Nat} (ho : wr.ownsRow w1.heap.size 44 3 v n (edCells l)) {o : Obj} {w4 : World} (hg : ((wr.alloc o).drew).grownBy w4 v.ownBlock) : Below w1.heap.size w1 w4 :=
  ((hb.alloc hb.size o).drew).grown hg (hb.alloc hb.size o).size (fun k hk => (ho.lt k hk).1)

theorem rown_next {w : World} {B : Nat} {v : Value} {l l' : List Ed} {e : Ed} (hX : l' = l ++ [e]) {n : Nat} (h : w.ownsRow B 44 3 v (n + 1) (edCells l ++ [.int .i64 e.1, .int .i64 e.2.1, .int .i64 e.2.2])) : w.ownsRow B 44 3 v (n + 1) (edCells l') := by
  subst hX
  rw [edCells_append]
  simpa [edCells] using h

set_option maxRecDepth 100000 in
set_option maxHeartbeats 4000000 in
theorem rout_ok (v : Value) (g : Gr) (i : Int) (w : World) (h : GraphAt w v g) : Calls Try.prog 27 #[v, .int .i64 i] w (EdgesBack w (outL g i)) := by
  have h4 := h.sS
  have h6 := h.sT
  obtain ⟨sa, aa, ta, sc, ac, tc, rfl, hv⟩ := h.var
  have hb := balloc w (.cells #[.slice sa g.S.length sc, .slice aa g.A.length ac, .slice ta g.T.length tc] 26)
  have HN := Lib.hid (rnodes_ok _ g _ (h.below hb))
  by_cases h0 : i < 0
  · have e : outL g i = [] := by unfold outL; rw [if_neg (by omega)]
    rw [e]
    have HB := Lib.hid hb
    clear h hv hb
    go_enter Try.func27, Try.ntmps27
    go_wp2_with fail
    go_ret
    exact ⟨_, rfl, edgesAt_nil _, HB.out⟩
  · by_cases h1 : i < (nodesN g : Int)
    · have hR : Rt g := by
        cases hh : rightB g
        · rw [nodesN_not hh] at h1; omega
        · exact (rightB_iff g).1 hh
      have hn := nodesN_right hR
      obtain ⟨k, rfl⟩ : ∃ k : Nat, i = (k : Int) := ⟨i.toNat, by omega⟩
      have hk : k + 1 < g.S.length := by omega
      have e : outL g k = eds g k := by unfold outL; rw [if_pos ⟨(rightB_iff g).2 hR, by omega, by omega⟩]; simp
      rw [e]
      clear e
      have hsl := hR.stLe (i := k) (j := k + 1) (by omega) (by omega)
      have hst := hR.stTop (i := k + 1) (by omega)
      obtain ⟨i0, hi0, hz0, hz1, hz2⟩ := info_parts Try.info44
      have s0 := hv.hs k (by omega)
      rw [hR.st (by omega)] at s0
      have s1 := hv.hs (k + 1) hk
      rw [hR.st hk] at s1
      obtain ⟨b, off, rfl, s0⟩ := s0
      obtain ⟨b', off', e, s1⟩ := s1
      cases e
      have c0 := hv.c0
      have HB := Lib.hid hb
      have HR := Lib.hid hR
      have HV := Lib.hid hv
      have hnk : ¬ nodesN g ≤ k := by omega
      clear h hv hb hR hn
      go_enter Try.func27, Try.ntmps27
      go_wp2_with (first
        | (go_at_call 31; refine HN.out.mono ?_; rintro e w1 ⟨rfl, hb1⟩; have x0 := bkeep hb1 c0; have y0 := bkeep hb1 s0; have y1 := bkeep hb1 s1; have HV1 := Lib.hid (HV.out.below hb1); have HB1 := Lib.hid (HB.out.trans (hb1.mono HB.out.size)); clear hb1 c0 s0 s1))
      obtain ⟨len, hlen⟩ : ∃ n : Nat, st g (k + 1) = st g k + n := ⟨st g (k + 1) - st g k, by omega⟩
      rw [hlen] at y1
      have heds : eds g k = edsN g k len := by unfold eds; congr 1; omega
      have HED := Lib.hid heds
      clear heds
      go_loopg [5, 6] len (fun fu v c wr => ∃ r : Nat, r + fu = len ∧ c = .int .i64 (st g k + r : Nat) ∧ wr.ownsRow w1.heap.size 44 3 v r (edCells (edsN g k r)) ∧ Below w1.heap.size w1 wr)
      case atStart => exact ⟨0, by omega, rfl, ⟨rfl, .inl ⟨rfl, rfl⟩⟩, Below.refl _ _⟩
      case round =>
        obtain ⟨r, hr, rfl, ho, hb⟩ := hrel
        have z0 := bkeep hb x0
        have z1 := bkeep hb y1
        have e1 : IntKind.i64.wrap ((k : Int) + 1) = ((k + 1 : Nat) : Int) := by rw [IntWalk.i64_in _ (by omega)]; simp
        by_cases hlt : r < len
        · generalize hp : st g k + r = p at *
          have hkT : p < g.T.length := by omega
          have hkA : p < g.A.length := by rw [HR.out.lens]; exact hkT
          have c1 := bkeep hb HV1.out.c1
          have c2 := bkeep hb HV1.out.c2
          obtain ⟨ba, oa, rfl, a0⟩ := HV1.out.ha p hkA
          obtain ⟨bt, ot, rfl, t0⟩ := HV1.out.ht p hkT
          have a1 := bkeep hb a0
          have t1 := bkeep hb t0
          have hnext : edsN g k (r + 1) = edsN g k r ++ [edge g k p] := by rw [edsN_succ, hp]
          have b1 : (p : Int) < (g.A.length : Int) := by omega
          have b2 : (p : Int) < (g.T.length : Int) := by omega
          have b3 : (p : Int) < (st g k : Int) + (len : Int) := by omega
          have hedge : edge g k p = ((k : Int), g.A.getD p 0, g.T.getD p 0) := rfl
          rw [hedge] at hnext
          generalize g.A.getD p 0 = xa at *
          generalize g.T.getD p 0 = xt at *
          have HO := Lib.hid ho
          have HBB := Lib.hid hb
          have HP := Lib.hid hp
          have HX := Lib.hid hnext
          have hsz := hb.size
          have M1 : Hid (r + 1 ≤ maxLen) := Lib.hid (by unfold maxLen; omega)
          have M2 : Hid ((r + 1) * 24 ≤ 140737488355328) := Lib.hid (by omega)
          clear ho hb hp hnext hedge a0 t0 hlen
          go_wp2_with fail
          go_region_law (refine step_append_lies ((wr.alloc (.cells #[.int .i64 k, .int .i64 xa, .int .i64 xt] 44)).drew) rfl (.tmp 30) (.tmp 43) 22 rfl w1.heap.size 44 i0 (.agg #[.int .i64 0, .int .i64 0, .int .i64 0]) 3 24 Try.underlying22 hi0 hz0 hz1 hz2 rfl (by decide) u5 r (edCells (edsN g k r)) (by simp [Act.eval]) (HO.out.alloc _) ⟨wr.heap.size, 0, none⟩ 1 1 [.int .i64 k, .int .i64 xa, .int .i64 xt] (by simp [Act.eval]) rfl (World.news_of_block (heap_alloc_new wr _)) (by simp [Value.oneCell']) Nat.one_pos M1.out M2.out (HBB.out.alloc HBB.out.size _).size (wr.heap.size + 1) (by simp) ?_; intro g2 cap2 w4 hown2 hgr2 hor2 hlt2; have HB4 := Lib.hid (rapp_step HBB.out HO.out hgr2); have HO4 := Lib.hid hown2; clear hgr2 hown2)
          clear e1
          all_goals go_wp2_with fail
          all_goals go_roundg (gk - 1)
          all_goals first
            | omega
            | exact ⟨r + 1, by omega, by have := HP.out; simp; omega, rown_next HX.out HO4.out, HB4.out⟩
        · obtain rfl : gk = 0 := by omega
          obtain rfl : r = len := by omega
          have Q := Lib.hid (And.intro (ownsRow_edges (l := edsN g k r) (by rw [edsN_len]; exact ho)) hb)
          clear ho hb e1
          go_wp2_with fail
          go_ret
          exact ⟨_, rfl, HED.out ▸ Q.out.1, HB1.out.trans (Q.out.2.mono HB1.out.size)⟩
    · have e : outL g i = [] := by
        unfold outL; rw [if_neg]
        rintro ⟨e1, e2, e3⟩
        rw [nodesN_right ((rightB_iff g).1 e1)] at h1; omega
      rw [e]
      have HB := Lib.hid hb
      clear h hb hv e
      go_enter Try.func27, Try.ntmps27
      go_wp2_with (first
        | (go_at_call 31; refine HN.out.mono ?_; rintro e w1 ⟨rfl, hb1⟩; have HB1 := Lib.hid (HB.out.trans (hb1.mono HB.out.size)); clear hb1))
      go_ret
      exact ⟨_, rfl, edgesAt_nil _, HB1.out⟩
end Go.Proofs.Ytnlaonppgebpoaa

namespace Go.Proofs.Ytnlaonppgebpoaa
open Go.RowKit

/-- edges as a call hands them back, in a row of its own -/
def EdgesOwn (w : World) (l : List Ed) (e : Ending) (w' : World) : Prop := ∃ v, e = .returned v ∧ w'.ownsRow w.heap.size 44 3 v l.length (edCells l) ∧ Below w.heap.size w w'
theorem EdgesOwn.back {w : World} {l : List Ed} {e : Ending} {w' : World} (h : EdgesOwn w l e w') : EdgesBack w l e w' := let ⟨v, h1, h2, h3⟩ := h; ⟨v, h1, ownsRow_edges h2, h3⟩
theorem ownsRow_base {w : World} {b b' : Nat} {e : TypeId} {size : Nat} {v : Value} {n : Nat} {xs : List Value} (h : w.ownsRow b e size v n xs) (hb : b' ≤ b) : w.ownsRow b' e size v n xs := by
  refine ⟨h.1, ?_⟩
  rcases h.2 with hn | ⟨g, cap, cur, rfl, hg, r⟩
  · exact .inl hn
  · exact .inr ⟨g, cap, cur, rfl, Nat.le_trans hb hg, r⟩
theorem edgesOwn_nil (w w' : World) : w'.ownsRow w.heap.size 44 3 (.slice none 0 0) 0 (edCells []) := ⟨rfl, .inl ⟨rfl, rfl⟩⟩

set_option maxRecDepth 100000 in
set_option maxHeartbeats 4000000 in
theorem rall_own (v : Value) (g : Gr) (w : World) (h : GraphAt w v g) : Calls Try.prog 33 #[v] w (EdgesOwn w (allL g)) := by
  have h4 := h.sS
  have h6 := h.sT
  obtain ⟨sa, aa, ta, sc, ac, tc, rfl, hv⟩ := h.var
  have hb := balloc w (.cells #[.slice sa g.S.length sc, .slice aa g.A.length ac, .slice ta g.T.length tc] 26)
  have HN := Lib.hid (rright_ok _ g _ (h.below hb))
  cases hh : rightB g
  · rw [allL_not hh]
    rw [hh] at HN
    have HB := Lib.hid hb
    clear h hv hb hh
    go_enter Try.func33, Try.ntmps33
    go_wp2_with (first
      | (go_at_call 29; refine HN.out.mono ?_; rintro e w1 ⟨rfl, hb1⟩; have HB1 := Lib.hid (HB.out.trans (hb1.mono HB.out.size)); clear hb1))
    go_ret
    exact ⟨_, rfl, edgesOwn_nil _ _, HB1.out⟩
  · have hR := (rightB_iff g).1 hh
    rw [allL_right hR]
    rw [hh] at HN
    obtain ⟨i0, hi0, hz0, hz1, hz2⟩ := info_parts Try.info44
    have hne := hR.ne
    obtain ⟨n, hn⟩ : ∃ n : Nat, g.S.length = n + 1 := ⟨g.S.length - 1, by omega⟩
    have Hn := Lib.hid hn
    have hnl : n + 1 ≤ g.S.length := by omega
    have hnu : g.S.length ≤ n + 1 := by omega
    have hst0 : st g 0 = 0 := by unfold st; rw [hR.first]; rfl
    have hsp : ∀ i, i < g.S.length → (span g 0 i).length = st g i := fun i hi => by rw [span_len hR 0 i (by omega), hst0, Nat.zero_add]; rfl
    have HSP := Lib.hid hsp
    have HST := Lib.hid hst0
    have hn1 : g.S.length - 1 = n := by omega
    rw [hn1]
    have c0 := hv.c0
    have HB := Lib.hid hb
    have HR := Lib.hid hR
    have HV := Lib.hid hv
    clear h hv hb hR hn hn1 hsp hh hst0
    go_enter Try.func33, Try.ntmps33
    go_wp2_with (first
      | (go_at_call 29; refine HN.out.mono ?_; rintro e w1 ⟨rfl, hb1⟩; have x0 := bkeep hb1 c0; have HV1 := Lib.hid (HV.out.below hb1); have HB1 := Lib.hid (HB.out.trans (hb1.mono HB.out.size)); clear hb1 c0))
    go_loopg [3, 4] n (fun fu v c wr => ∃ i : Nat, i + fu = n ∧ c = .int .i64 i ∧ wr.ownsRow w1.heap.size 44 3 v (st g i) (edCells (span g 0 i)) ∧ Below w1.heap.size w1 wr)
    case atStart => exact ⟨0, by omega, rfl, by rw [HST.out]; exact ⟨rfl, .inl ⟨rfl, rfl⟩⟩, Below.refl _ _⟩
    case round =>
      obtain ⟨i, hi, rfl, ho, hb⟩ := hrel
      have z0 := bkeep hb x0
      by_cases hlt : i < n
      · obtain ⟨b, off, rfl, s0⟩ := HV1.out.hs i (by omega)
        rw [HR.out.st (by omega)] at s0
        have s1 := bkeep hb s0
        have b1 : (i : Int) + 1 < (g.S.length : Int) := by omega
        have b2 : (i : Int) < (g.S.length : Int) := by omega
        have HO := Lib.hid ho
        have HBB := Lib.hid hb
        clear ho hb s0
        go_wp2_with fail
        clear b1 b2
        obtain ⟨wr1, rfl⟩ : ∃ z : World, z = wr := ⟨_, rfl⟩
        obtain ⟨gk', rfl⟩ : ∃ z : Nat, z = gk := ⟨_, rfl⟩
        have hsl := HR.out.stLe (i := i) (j := i + 1) (by omega) (by omega)
        have hst := HR.out.stTop (i := i + 1) (by omega)
        obtain ⟨len, hlen⟩ : ∃ m : Nat, st g (i + 1) = st g i + m := ⟨st g (i + 1) - st g i, by omega⟩
        have HL := Lib.hid hlen
        have hl2 : st g i + len ≤ g.T.length := by omega
        have hi1 : i + 1 < g.S.length := by omega
        clear hlen hsl hst
        go_loopg [3, 5] len (fun fu v c wr => ∃ r : Nat, r + fu = len ∧ c = .int .i64 (st g i + r : Nat) ∧ wr.ownsRow w1.heap.size 44 3 v (st g i + r) (edCells (span g 0 i ++ edsN g i r)) ∧ Below w1.heap.size w1 wr)
        case atStart => exact ⟨0, by omega, rfl, by simpa [edsN] using HO.out, HBB.out⟩
        case round =>
          clear HO HBB z0 s1
          obtain ⟨r, hr, rfl, ho, hb⟩ := hrel
          have z0 := bkeep hb x0
          obtain ⟨b', off', e, s0⟩ := HV1.out.hs (i + 1) hi1
          cases e
          rw [HR.out.st hi1, HL.out] at s0
          have s1 := bkeep hb s0
          have e1 : IntKind.i64.wrap ((i : Int) + 1) = ((i + 1 : Nat) : Int) := by rw [IntWalk.i64_in _ (by omega)]; simp
          have b4 : (i : Int) + 1 < (g.S.length : Int) := by omega
          clear s0
          by_cases hlt2 : r < len
          · generalize hp : st g i + r = p at *
            have hkT : p < g.T.length := by omega
            have hkA : p < g.A.length := by rw [HR.out.lens]; exact hkT
            have c1 := bkeep hb HV1.out.c1
            have c2 := bkeep hb HV1.out.c2
            obtain ⟨ba, oa, rfl, a0⟩ := HV1.out.ha p hkA
            obtain ⟨bt, ot, rfl, t0⟩ := HV1.out.ht p hkT
            have a1 := bkeep hb a0
            have t1 := bkeep hb t0
            have hnext : span g 0 i ++ edsN g i (r + 1) = (span g 0 i ++ edsN g i r) ++ [edge g i p] := by rw [edsN_succ, hp, List.append_assoc]
            have b1 : (p : Int) < (g.A.length : Int) := by omega
            have b2 : (p : Int) < (g.T.length : Int) := by omega
            have b3 : (p : Int) < (st g i : Int) + (len : Int) := by omega
            have hedge : edge g i p = ((i : Int), g.A.getD p 0, g.T.getD p 0) := rfl
            rw [hedge] at hnext
            generalize g.A.getD p 0 = xa at *
            generalize g.T.getD p 0 = xt at *
            have HO := Lib.hid ho
            have HBB := Lib.hid hb
            have HP := Lib.hid hp
            have HX := Lib.hid hnext
            have hsz := hb.size
            have M1 : Hid (p + 1 ≤ maxLen) := Lib.hid (by unfold maxLen; omega)
            have M2 : Hid ((p + 1) * 24 ≤ 140737488355328) := Lib.hid (by omega)
            clear ho hb hp hnext hedge a0 t0
            go_wp2_with fail
            go_region_law (refine step_append_lies ((wr.alloc (.cells #[.int .i64 i, .int .i64 xa, .int .i64 xt] 44)).drew) rfl (.tmp 32) (.tmp 45) 22 rfl w1.heap.size 44 i0 (.agg #[.int .i64 0, .int .i64 0, .int .i64 0]) 3 24 Try.underlying22 hi0 hz0 hz1 hz2 rfl (by decide) u3 p (edCells (span g 0 i ++ edsN g i r)) (by simp [Act.eval]) (HO.out.alloc _) ⟨wr.heap.size, 0, none⟩ 1 1 [.int .i64 i, .int .i64 xa, .int .i64 xt] (by simp [Act.eval]) rfl (World.news_of_block (heap_alloc_new wr _)) (by simp [Value.oneCell']) Nat.one_pos M1.out M2.out (HBB.out.alloc HBB.out.size _).size (wr.heap.size + 1) (by simp) ?_; intro g2 cap2 w4 hown2 hgr2 hor2 hlt2; have HB4 := Lib.hid (rapp_step HBB.out HO.out hgr2); have HO4 := Lib.hid hown2; clear hgr2 hown2)
            clear e1
            all_goals go_wp2_with fail
            all_goals go_roundg (gk - 1)
            all_goals first
              | omega
              | exact ⟨r + 1, by omega, by have := HP.out; simp; omega, by have e := HP.out; have q := rown_next HX.out HO4.out; rw [show st g i + (r + 1) = p + 1 by omega]; exact q, HB4.out⟩
          · obtain rfl : gk = 0 := by omega
            obtain rfl : r = len := by omega
            have hnx : span g 0 i ++ edsN g i r = span g 0 (i + 1) := by
              rw [span_succ, eds, Nat.zero_add]
              have : st g (i + 1) - st g i = r := by have := HL.out; omega
              rw [this]
            rw [hnx, ← HL.out] at ho
            have HO := Lib.hid ho
            have HBB := Lib.hid hb
            clear ho hb hnx
            go_wp2_with fail
            go_roundg (gk' - 1)
            case measure => omega
            case rel => exact ⟨i + 1, by omega, by simp, HO.out, HBB.out⟩
      · obtain rfl : gk = 0 := by omega
        obtain rfl : i = n := by omega
        have b1 : ¬ (i : Int) + 1 < (g.S.length : Int) := by omega
        have Q := Lib.hid (And.intro (show wr.ownsRow w.heap.size 44 3 _ (span g 0 i).length (edCells (span g 0 i)) by rw [HSP.out i (by omega)]; exact ownsRow_base ho HB1.out.size) hb)
        clear ho hb
        go_wp2_with fail
        go_ret
        exact ⟨_, rfl, Q.out.1, HB1.out.trans (Q.out.2.mono HB1.out.size)⟩
theorem rall_ok (v : Value) (g : Gr) (w : World) (h : GraphAt w v g) : Calls Try.prog 33 #[v] w (EdgesBack w (allL g)) := (rall_own v g w h).mono fun _ _ h => h.back
end Go.Proofs.Ytnlaonppgebpoaa
