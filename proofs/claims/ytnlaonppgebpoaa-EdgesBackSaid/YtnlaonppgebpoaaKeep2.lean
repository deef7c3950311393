/-
  edges.Keep.
-/
import Derived.Test.YtnlaonppgebpoaaKeep
import Derived.Laws.EntriesVeiled
namespace Go.Proofs.Ytnlaonppgebpoaa
open Go.RowKit

def keepG (g : Gr) (l : List Bool) : Gr := madeG g (keepE l)
set_option maxRecDepth 100000 in
set_option maxHeartbeats 4000000 in
theorem keep_ok (v u : Value) (g : Gr) (l : List Bool) (w : World) (h : GraphAt w v g) (hu : BoolsAt w u l) (hl : l.length ≤ 9223372036854775807) : Calls Try.prog 36 #[v, u] w (GraphBack w (keepG g l)) := by
  obtain ⟨sa, aa, ta, sc, ac, tc, rfl, -⟩ := h.var
  obtain ⟨ua, uc, rfl, -⟩ := id hu
  have hb1 := balloc w (.cells #[.slice sa g.S.length sc, .slice aa g.A.length ac, .slice ta g.T.length tc] 26)
  have hb2 := balloc (w.alloc (.cells #[.slice sa g.S.length sc, .slice aa g.A.length ac, .slice ta g.T.length tc] 26)) (.cells #[.slice ua l.length uc] 33)
  have hb3 := balloc ((w.alloc (.cells #[.slice sa g.S.length sc, .slice aa g.A.length ac, .slice ta g.T.length tc] 26)).alloc (.cells #[.slice ua l.length uc] 33)) (.cells #[.slice none 0 0, .slice none 0 0, .slice none 0 0] 26)
  have hb4 := balloc (((w.alloc (.cells #[.slice sa g.S.length sc, .slice aa g.A.length ac, .slice ta g.T.length tc] 26)).alloc (.cells #[.slice ua l.length uc] 33)).alloc (.cells #[.slice none 0 0, .slice none 0 0, .slice none 0 0] 26)) (.cells #[.func (.func 78) #[] #[.pointer (some ⟨w.heap.size + 1, 0, none⟩)]] 76)
  have hb := ((hb1.trans (hb2.mono hb1.size)).trans (hb3.mono (hb1.trans (hb2.mono hb1.size)).size)).trans (hb4.mono ((hb1.trans (hb2.mono hb1.size)).trans (hb3.mono (hb1.trans (hb2.mono hb1.size)).size)).size)
  have x1 := bheap hb4 (bheap hb3 (heap_alloc_at (w.alloc (.cells #[.slice sa g.S.length sc, .slice aa g.A.length ac, .slice ta g.T.length tc] 26)) (.cells #[.slice ua l.length uc] 33) (w.heap.size + 1) (by simp)))
  have x2 := bheap hb4 (heap_alloc_at ((w.alloc (.cells #[.slice sa g.S.length sc, .slice aa g.A.length ac, .slice ta g.T.length tc] 26)).alloc (.cells #[.slice ua l.length uc] 33)) (.cells #[.slice none 0 0, .slice none 0 0, .slice none 0 0] 26) (w.heap.size + 1 + 1) (by simp))
  have x3 := heap_alloc_at (((w.alloc (.cells #[.slice sa g.S.length sc, .slice aa g.A.length ac, .slice ta g.T.length tc] 26)).alloc (.cells #[.slice ua l.length uc] 33)).alloc (.cells #[.slice none 0 0, .slice none 0 0, .slice none 0 0] 26)) (.cells #[.func (.func 78) #[] #[.pointer (some ⟨w.heap.size + 1, 0, none⟩)]] 76) (w.heap.size + 1 + 1 + 1) (by simp)
  have y0 := cell_of_block (bheap hb4 (bheap hb3 (bheap hb2 (heap_alloc_new w (.cells #[.slice sa g.S.length sc, .slice aa g.A.length ac, .slice ta g.T.length tc] 26))))) 0 _ rfl
  have y1 := cell_of_block (bheap hb4 (bheap hb3 (bheap hb2 (heap_alloc_new w (.cells #[.slice sa g.S.length sc, .slice aa g.A.length ac, .slice ta g.T.length tc] 26))))) 1 _ rfl
  have y2 := cell_of_block (bheap hb4 (bheap hb3 (bheap hb2 (heap_alloc_new w (.cells #[.slice sa g.S.length sc, .slice aa g.A.length ac, .slice ta g.T.length tc] 26))))) 2 _ rfl
  have HM := Lib.hid (made_any 79 #[.pointer (some ⟨w.heap.size + 1 + 1 + 1, 0, none⟩)] (keepE l) _ g _ (h.below hb) (keep_tell l _ _ (w.heap.size + 1) (w.heap.size + 1 + 1 + 1) (hu.below hb) hl (cell_of_block x1 0 _ rfl) (cell_of_block x3 0 _ rfl)))
  have X0 := Lib.hid x2
  have HB := Lib.hid hb
  have E := Lib.hid (show madeG g (keepE l) = keepG g l from rfl)
  rw [E.out] at HM
  clear h hu hb hb1 hb2 hb3 hb4 x1 x2 x3
  generalize keepG g l = G at *
  clear E
  go_enter Try.func36, Try.ntmps36
  go_wp2_with (first
    | (go_at_call 76; refine HM.out.mono ?_; rintro e w1 ⟨v1, rfl, hG, hb1⟩; obtain ⟨s1, s2, s3, c1, c2, c3, rfl, -⟩ := hG.var; have l1 := bheap hb1 X0.out; have r0 := cell_of_block l1 0 _ rfl; have r1 := cell_of_block l1 1 _ rfl; have r2 := cell_of_block l1 2 _ rfl; have g0 := free_of_block l1 0; have g1 := free_of_block l1 1; have g2 := free_of_block l1 2; have HB1 := Lib.hid (HB.out.trans (hb1.mono HB.out.size)); have L1 := Lib.hid l1; have HG := Lib.hid hG; clear hb1 l1 hG))
  obtain ⟨q1, q2, q3, q4⟩ := ret3 L1.out (.slice s1 G.S.length c1) (.slice s2 G.A.length c2) (.slice s3 G.T.length c3)
  refine bodyPost_ret (v := .agg #[.slice s1 G.S.length c1, .slice s2 G.A.length c2, .slice s3 G.T.length c3]) (by simp [results, Try.results36, go_sem, q1, q2, q3]) rfl ?_
  exact ⟨_, rfl, HG.out.off L1.out q4, HB1.out.trans (q4.below (fun k hk => by omega) HB1.out.size)⟩
end Go.Proofs.Ytnlaonppgebpoaa
