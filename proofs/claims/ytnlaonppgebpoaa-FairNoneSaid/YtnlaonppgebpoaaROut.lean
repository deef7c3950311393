/-
  The reference's Out and All.
-/
import Derived.Test.YtnlaonppgebpoaaOut
import Derived.Deep.RegionLaw
namespace Go.Proofs.Ytnlaonppgebpoaa
open Go.RowKit

theorem rapp_step {w1 wr : World} {v : Value} {l : List Ed} (hb : Below w1.heap.size w1 wr) {n : Nat} (ho : wr.ownsRow w1.heap.size 44 3 v n (edCells l)) {o : Obj} {w4 : World} (hg : ((wr.alloc o).drew).grownBy w4 v.ownBlock) : Below w1.heap.size w1 w4 :=
  ((hb.alloc hb.size o).drew).grown hg (hb.alloc hb.size o).size (fun k hk => (ho.lt k hk).1)

theorem rown_next {w : World} {B : Nat} {v : Value} {l l' : List Ed} {e : Ed} (hX : l' = l ++ [e]) {n : Nat} (h : w.ownsRow B 44 3 v (n + 1) (edCells l ++ [.int .i64 e.1, .int .i64 e.2.1, .int .i64 e.2.2])) : w.ownsRow B 44 3 v (n + 1) (edCells l') := by
  subst hX
  rw [edCells_append]
  simpa [edCells] using h

set_option maxRecDepth 100000 in
set_option maxHeartbeats 4000000 in
theorem rout_ok (v : Value) (g : Gr) (i : Int) (w : World) (h : GraphAt w v g) : Calls Try.prog 27 #[v, .int .i64 i] w (EdgesBack w (outL g i)) := by
  have h4 := h.sS
  have h6 := h.sT
  obtain ⟨sa, aa, ta, sc, ac, tc, rfl, hv⟩ := h.var
  have hb := balloc w (.cells #[.slice sa g.S.length sc, .slice aa g.A.length ac, .slice ta g.T.length tc] 26)
  have HN := Lib.hid (rnodes_ok _ g _ (h.below hb))
  by_cases h0 : i < 0
  · have e : outL g i = [] := by unfold outL; rw [if_neg (by omega)]
    rw [e]
    have HB := Lib.hid hb
    clear h hv hb
    go_enter Try.func27, Try.ntmps27
    go_wp2_with fail
    go_ret
    exact ⟨_, rfl, edgesAt_nil _, HB.out⟩
  · by_cases h1 : i < (nodesN g : Int)
    · have hR : Rt g := by
        cases hh : rightB g
        · rw [nodesN_not hh] at h1; omega
        · exact (rightB_iff g).1 hh
      have hn := nodesN_right hR
      obtain ⟨k, rfl⟩ : ∃ k : Nat, i = (k : Int) := ⟨i.toNat, by omega⟩
      have hk : k + 1 < g.S.length := by omega
      have e : outL g k = eds g k := by unfold outL; rw [if_pos ⟨(rightB_iff g).2 hR, by omega, by omega⟩]; simp
      rw [e]
      clear e
      have hsl := hR.stLe (i := k) (j := k + 1) (by omega) (by omega)
      have hst := hR.stTop (i := k + 1) (by omega)
      obtain ⟨i0, hi0, hz0, hz1, hz2⟩ := info_parts Try.info44
      have s0 := hv.hs k (by omega)
      rw [hR.st (by omega)] at s0
      have s1 := hv.hs (k + 1) hk
      rw [hR.st hk] at s1
      obtain ⟨b, off, rfl, s0⟩ := s0
      obtain ⟨b', off', e, s1⟩ := s1
      cases e
      have c0 := hv.c0
      have HB := Lib.hid hb
      have HR := Lib.hid hR
      have HV := Lib.hid hv
      have hnk : ¬ nodesN g ≤ k := by omega
      clear h hv hb hR hn
      go_enter Try.func27, Try.ntmps27
      go_wp2_with (first
        | (go_at_call 31; refine HN.out.mono ?_; rintro e w1 ⟨rfl, hb1⟩; have x0 := bkeep hb1 c0; have y0 := bkeep hb1 s0; have y1 := bkeep hb1 s1; have HV1 := Lib.hid (HV.out.below hb1); have HB1 := Lib.hid (HB.out.trans (hb1.mono HB.out.size)); clear hb1 c0 s0 s1))
      obtain ⟨len, hlen⟩ : ∃ n : Nat, st g (k + 1) = st g k + n := ⟨st g (k + 1) - st g k, by omega⟩
      rw [hlen] at y1
      have heds : eds g k = edsN g k len := by unfold eds; congr 1; omega
      have HED := Lib.hid heds
      clear heds
      go_loopg [5, 6] len (fun fu v c wr => ∃ r : Nat, r + fu = len ∧ c = .int .i64 (st g k + r : Nat) ∧ wr.ownsRow w1.heap.size 44 3 v r (edCells (edsN g k r)) ∧ Below w1.heap.size w1 wr)
      case atStart => exact ⟨0, by omega, rfl, ⟨rfl, .inl ⟨rfl, rfl⟩⟩, Below.refl _ _⟩
      case round =>
        obtain ⟨r, hr, rfl, ho, hb⟩ := hrel
        have z0 := bkeep hb x0
        have z1 := bkeep hb y1
        have e1 : IntKind.i64.wrap ((k : Int) + 1) = ((k + 1 : Nat) : Int) := by rw [IntWalk.i64_in _ (by omega)]; simp
        by_cases hlt : r < len
        · generalize hp : st g k + r = p at *
          have hkT : p < g.T.length := by omega
          have hkA : p < g.A.length := by rw [HR.out.lens]; exact hkT
          have c1 := bkeep hb HV1.out.c1
          have c2 := bkeep hb HV1.out.c2
          obtain ⟨ba, oa, rfl, a0⟩ := HV1.out.ha p hkA
          obtain ⟨bt, ot, rfl, t0⟩ := HV1.out.ht p hkT
          have a1 := bkeep hb a0
          have t1 := bkeep hb t0
          have hnext : edsN g k (r + 1) = edsN g k r ++ [edge g k p] := by rw [edsN_succ, hp]
          have b1 : (p : Int) < (g.A.length : Int) := by omega
          have b2 : (p : Int) < (g.T.length : Int) := by omega
          have b3 : (p : Int) < (st g k : Int) + (len : Int) := by omega
          have hedge : edge g k p = ((k : Int), g.A.getD p 0, g.T.getD p 0) := rfl
          rw [hedge] at hnext
          generalize g.A.getD p 0 = xa at *
          generalize g.T.getD p 0 = xt at *
          have HO := Lib.hid ho
          have HBB := Lib.hid hb
          have HP := Lib.hid hp
          have HX := Lib.hid hnext
          have hsz := hb.size
          have M1 : Hid (r + 1 ≤ maxLen) := Lib.hid (by unfold maxLen; omega)
          have M2 : Hid ((r + 1) * 24 ≤ 140737488355328) := Lib.hid (by omega)
          clear ho hb hp hnext hedge a0 t0 hlen
          go_wp2_with fail
          go_region_law (refine step_append_lies ((wr.alloc (.cells #[.int .i64 k, .int .i64 xa, .int .i64 xt] 44)).drew) rfl (.tmp 30) (.tmp 43) 22 rfl w1.heap.size 44 i0 (.agg #[.int .i64 0, .int .i64 0, .int .i64 0]) 3 24 Try.underlying22 hi0 hz0 hz1 hz2 rfl (by decide) u5 r (edCells (edsN g k r)) (by simp [Act.eval]) (HO.out.alloc _) ⟨wr.heap.size, 0, none⟩ 1 1 [.int .i64 k, .int .i64 xa, .int .i64 xt] (by simp [Act.eval]) rfl (World.news_of_block (heap_alloc_new wr _)) (by simp [Value.oneCell']) Nat.one_pos M1.out M2.out (HBB.out.alloc HBB.out.size _).size (wr.heap.size + 1) (by simp) ?_; intro g2 cap2 w4 hown2 hgr2 hor2 hlt2; have HB4 := Lib.hid (rapp_step HBB.out HO.out hgr2); have HO4 := Lib.hid hown2; clear hgr2 hown2)
          clear e1
          all_goals go_wp2_with fail
          all_goals go_roundg (gk - 1)
          all_goals first
            | omega
            | exact ⟨r + 1, by omega, by have := HP.out; simp; omega, rown_next HX.out HO4.out, HB4.out⟩
        · obtain rfl : gk = 0 := by omega
          obtain rfl : r = len := by omega
          have Q := Lib.hid (And.intro (ownsRow_edges (l := edsN g k r) (by rw [edsN_len]; exact ho)) hb)
          clear ho hb e1
          go_wp2_with fail
          go_ret
          exact ⟨_, rfl, HED.out ▸ Q.out.1, HB1.out.trans (Q.out.2.mono HB1.out.size)⟩
    · have e : outL g i = [] := by
        unfold outL; rw [if_neg]
        rintro ⟨e1, e2, e3⟩
        rw [nodesN_right ((rightB_iff g).1 e1)] at h1; omega
      rw [e]
      have HB := Lib.hid hb
      clear h hb hv e
      go_enter Try.func27, Try.ntmps27
      go_wp2_with (first
        | (go_at_call 31; refine HN.out.mono ?_; rintro e w1 ⟨rfl, hb1⟩; have HB1 := Lib.hid (HB.out.trans (hb1.mono HB.out.size)); clear hb1))
      go_ret
      exact ⟨_, rfl, edgesAt_nil _, HB1.out⟩
end Go.Proofs.Ytnlaonppgebpoaa
