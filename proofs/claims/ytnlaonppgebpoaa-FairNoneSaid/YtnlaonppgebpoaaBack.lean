/-
  edges.Back, edges.Keep.
-/
import Derived.Test.YtnlaonppgebpoaaMade2
namespace Go.Proofs.Ytnlaonppgebpoaa
open Go.RowKit

def swapE (e : Ed) : Ed × Bool := ((e.2.2, e.2.1, e.1), true)
set_option maxRecDepth 100000 in
set_option maxHeartbeats 4000000 in
theorem back_tell (w0 : World) : Tell 77 #[] w0 swapE := by
  refine ⟨enters_of Try.func77 (by kernel_rfl) rfl, ?_⟩
  rintro ⟨x, y, z⟩ w _ _ _
  show Calls Try.prog 77 #[.agg #[.int .i64 x, .int .i64 y, .int .i64 z]] w _
  go_enter Try.func77, Try.ntmps77
  go_wp2_with fail
  refine bodyPost_ret (v := .tuple #[.agg #[.int .i64 z, .int .i64 y, .int .i64 x], .bool true]) (by simp [results, Try.results77, go_sem]) rfl ?_
  exact ⟨rfl, (balloc w _).trans ((balloc _ _).mono (by simp))⟩

def backG (g : Gr) : Gr := madeG g swapE
set_option maxRecDepth 100000 in
set_option maxHeartbeats 4000000 in
theorem back_ok (v : Value) (g : Gr) (w : World) (h : GraphAt w v g) : Calls Try.prog 34 #[v] w (GraphBack w (backG g)) := by
  obtain ⟨sa, aa, ta, sc, ac, tc, rfl, -⟩ := h.var
  have hb := (balloc w (.cells #[.slice sa g.S.length sc, .slice aa g.A.length ac, .slice ta g.T.length tc] 26)).trans ((balloc (w.alloc (.cells #[.slice sa g.S.length sc, .slice aa g.A.length ac, .slice ta g.T.length tc] 26)) (.cells #[.slice none 0 0, .slice none 0 0, .slice none 0 0] 26)).mono (by simp))
  have HM := Lib.hid (made_any 77 #[] swapE _ g _ (h.below hb) (back_tell _))
  have X0 := Lib.hid (heap_alloc_at (w.alloc (.cells #[.slice sa g.S.length sc, .slice aa g.A.length ac, .slice ta g.T.length tc] 26)) (.cells #[.slice none 0 0, .slice none 0 0, .slice none 0 0] 26) (w.heap.size + 1) (by simp))
  have HB := Lib.hid hb
  clear h hb
  go_enter Try.func34, Try.ntmps34
  go_wp2_with (first
    | (go_at_call 76; refine HM.out.mono ?_; rintro e w1 ⟨v1, rfl, hG, hb1⟩; obtain ⟨s1, s2, s3, c1, c2, c3, rfl, -⟩ := hG.var; have l1 := bheap hb1 X0.out; have r0 := cell_of_block l1 0 _ rfl; have r1 := cell_of_block l1 1 _ rfl; have r2 := cell_of_block l1 2 _ rfl; have g0 := free_of_block l1 0; have g1 := free_of_block l1 1; have g2 := free_of_block l1 2; have HB1 := Lib.hid (HB.out.trans (hb1.mono HB.out.size)); have L1 := Lib.hid l1; have HG := Lib.hid hG; clear hb1 l1 hG))
  obtain ⟨q1, q2, q3, q4⟩ := ret3 L1.out (.slice s1 (madeG g swapE).S.length c1) (.slice s2 (madeG g swapE).A.length c2) (.slice s3 (madeG g swapE).T.length c3)
  refine bodyPost_ret (v := .agg #[.slice s1 (madeG g swapE).S.length c1, .slice s2 (madeG g swapE).A.length c2, .slice s3 (madeG g swapE).T.length c3]) (by simp [results, Try.results34, go_sem, q1, q2, q3]) rfl ?_
  exact ⟨_, rfl, HG.out.off L1.out q4, HB1.out.trans (q4.below (fun k hk => by omega) HB1.out.size)⟩

/-- is a node in? -/
def inB (l : List Bool) (i : Int) : Bool := decide (i < (l.length : Int)) && l.getD i.toNat false
set_option maxRecDepth 100000 in
set_option maxHeartbeats 4000000 in
theorem is_ok (l : List Bool) (i : Int) (hi : 0 ≤ i) (v : Value) (b : Nat) (w : World) (h : BoolsAt w v l) (hb : w.cell? ⟨b, 0, none⟩ = some v) (_hl : l.length ≤ 9223372036854775807) :
    Calls Try.prog 78 #[.int .i64 i, .pointer (some ⟨b, 0, none⟩)] w fun e w' => e = .returned (.bool (inB l i)) ∧ w = w' := by
  obtain ⟨k, rfl⟩ : ∃ k : Nat, i = (k : Int) := ⟨i.toNat, by omega⟩
  obtain ⟨a, cap, rfl, ha⟩ := h
  by_cases hk : k < l.length
  · obtain ⟨b', off, rfl, d⟩ := ha k hk
    have E := Lib.hid (show inB l k = l.getD k false by unfold inB; simp [hk])
    have z : (k : Int) < (l.length : Int) := by omega
    clear ha
    generalize l.getD k false = x at *
    go_enter Try.func78, Try.ntmps78
    go_wp2_with fail
    go_ret
    exact ⟨by rw [E.out]; rfl, rfl⟩
  · have E := Lib.hid (show inB l k = false by unfold inB; simp [hk])
    have z : ¬ (k : Int) < (l.length : Int) := by omega
    clear ha
    go_enter Try.func78, Try.ntmps78
    go_wp2_with fail
    go_ret
    exact ⟨by rw [E.out]; rfl, rfl⟩
set_option maxRecDepth 100000 in
set_option maxHeartbeats 4000000 in
theorem ris_ok (l : List Bool) (i : Int) (hi : 0 ≤ i) (v : Value) (w : World) (h : BoolsAt w v l) (_hl : l.length ≤ 9223372036854775807) :
    Calls Try.prog 80 #[v, .int .i64 i] w fun e w' => e = .returned (.bool (inB l i)) ∧ w = w' := by
  obtain ⟨k, rfl⟩ : ∃ k : Nat, i = (k : Int) := ⟨i.toNat, by omega⟩
  obtain ⟨a, cap, rfl, ha⟩ := h
  by_cases hk : k < l.length
  · obtain ⟨b', off, rfl, d⟩ := ha k hk
    have E := Lib.hid (show inB l k = l.getD k false by unfold inB; simp [hk])
    have z : (k : Int) < (l.length : Int) := by omega
    clear ha
    generalize l.getD k false = x at *
    go_enter Try.func80, Try.ntmps80
    go_wp2_with fail
    go_ret
    exact ⟨by rw [E.out]; rfl, rfl⟩
  · have E := Lib.hid (show inB l k = false by unfold inB; simp [hk])
    have z : ¬ (k : Int) < (l.length : Int) := by omega
    clear ha
    go_enter Try.func80, Try.ntmps80
    go_wp2_with fail
    go_ret
    exact ⟨by rw [E.out]; rfl, rfl⟩
end Go.Proofs.Ytnlaonppgebpoaa
