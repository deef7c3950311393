/-
  edges.Keep: the closure that tells. edges.Keep.
-/
import Derived.Test.YtnlaonppgebpoaaMade2
import Derived.Laws.EntriesVeiled
namespace Go.Proofs.Ytnlaonppgebpoaa
open Go.RowKit

def keepE (l : List Bool) (e : Ed) : Ed × Bool := (e, inB l e.1 && inB l e.2.2)
set_option maxRecDepth 100000 in
set_option maxHeartbeats 16000000 in
theorem keep_tell (l : List Bool) (v : Value) (w0 : World) (b c : Nat) (h : BoolsAt w0 v l) (hl : l.length ≤ 9223372036854775807) (hb : w0.cell? ⟨b, 0, none⟩ = some v) (hc : w0.cell? ⟨c, 0, none⟩ = some (.func (.func 78) #[] #[.pointer (some ⟨b, 0, none⟩)])) :
    Tell 79 #[.pointer (some ⟨c, 0, none⟩)] w0 (keepE l) := by
  refine ⟨enters_of Try.func79 (by kernel_rfl) rfl, ?_⟩
  rintro ⟨x, y, z⟩ w hx hz hw
  have hE' : ∀ (args : Array Value) (w : World), (callFunc 78 args).run Try.prog w = .ok (.enter 78 args) w := enters_of Try.func78 (by kernel_rfl) rfl
  have hw2 := (hw.trans ((balloc w (.cells #[.int .i64 x, .int .i64 y, .int .i64 z] 44)).mono hw.size)).trans ((balloc (w.alloc (.cells #[.int .i64 x, .int .i64 y, .int .i64 z] 44)) (.cells #[.int .i64 0, .int .i64 0, .int .i64 0] 44)).mono (by have := hw.size; simp; omega))
  have HI := Lib.hid (fun i (hi : 0 ≤ i) => is_ok l i hi v b ((w.alloc (.cells #[.int .i64 x, .int .i64 y, .int .i64 z] 44)).alloc (.cells #[.int .i64 0, .int .i64 0, .int .i64 0] 44)).drew (h.below hw2.drew) (bkeep hw2.drew hb) hl)
  have d := bkeep hw2 hc
  have EK : keepE l (x, y, z) = ((x, y, z), inB l x && inB l z) := rfl
  rw [EK]
  clear EK h hb hc hw hw2
  have H1 := Lib.hid (HI.out x hx)
  have H2 := Lib.hid (HI.out z hz)
  show Calls Try.prog 79 #[.agg #[.int .i64 x, .int .i64 y, .int .i64 z], .pointer (some ⟨c, 0, none⟩)] w _
  generalize inB l x = bx at *
  generalize inB l z = bz at *
  clear HI
  have HW := Lib.hid ((balloc w (.cells #[.int .i64 x, .int .i64 y, .int .i64 z] 44)).trans ((balloc (w.alloc (.cells #[.int .i64 x, .int .i64 y, .int .i64 z] 44)) (.cells #[.int .i64 x, .int .i64 y, .int .i64 z] 44)).mono (by simp))).drew
  cases bx
  · go_enter Try.func79, Try.ntmps79
    go_wp2_with fail
    first
      | go_region_with (first
        | (go_at_call_of 78 (Value.int .i64 x); go_at_fn 78; refine H1.out.mono ?_; rintro e w' ⟨rfl, rfl⟩)
        | (go_at_call_of 78 (Value.int .i64 z); go_at_fn 78; refine H2.out.mono ?_; rintro e w' ⟨rfl, rfl⟩))
      | fail
    all_goals go_wp2_with fail
    all_goals refine bodyPost_ret (v := .tuple #[.agg #[.int .i64 x, .int .i64 y, .int .i64 z], .bool false]) (by simp [results, Try.results79, go_sem]) rfl ?_
    all_goals exact ⟨rfl, HW.out⟩
  · go_enter Try.func79, Try.ntmps79
    go_wp2_with fail
    first
      | go_region_with (first
        | (go_at_call_of 78 (Value.int .i64 x); go_at_fn 78; refine H1.out.mono ?_; rintro e w' ⟨rfl, rfl⟩)
        | (go_at_call_of 78 (Value.int .i64 z); go_at_fn 78; refine H2.out.mono ?_; rintro e w' ⟨rfl, rfl⟩))
      | fail
    all_goals go_wp2_with fail
    all_goals refine bodyPost_ret (v := .tuple #[.agg #[.int .i64 x, .int .i64 y, .int .i64 z], .bool bz]) (by simp [results, Try.results79, go_sem]) rfl ?_
    all_goals exact ⟨rfl, HW.out⟩
end Go.Proofs.Ytnlaonppgebpoaa

namespace Go.Proofs.Ytnlaonppgebpoaa
open Go.RowKit

def keepG (g : Gr) (l : List Bool) : Gr := madeG g (keepE l)
set_option maxRecDepth 100000 in
set_option maxHeartbeats 4000000 in
theorem keep_ok (v u : Value) (g : Gr) (l : List Bool) (w : World) (h : GraphAt w v g) (hu : BoolsAt w u l) (hl : l.length ≤ 9223372036854775807) : Calls Try.prog 36 #[v, u] w (GraphBack w (keepG g l)) := by
  obtain ⟨sa, aa, ta, sc, ac, tc, rfl, -⟩ := h.var
  obtain ⟨ua, uc, rfl, -⟩ := id hu
  have hb1 := balloc w (.cells #[.slice sa g.S.length sc, .slice aa g.A.length ac, .slice ta g.T.length tc] 26)
  have hb2 := balloc (w.alloc (.cells #[.slice sa g.S.length sc, .slice aa g.A.length ac, .slice ta g.T.length tc] 26)) (.cells #[.slice ua l.length uc] 33)
  have hb3 := balloc ((w.alloc (.cells #[.slice sa g.S.length sc, .slice aa g.A.length ac, .slice ta g.T.length tc] 26)).alloc (.cells #[.slice ua l.length uc] 33)) (.cells #[.slice none 0 0, .slice none 0 0, .slice none 0 0] 26)
  have hb4 := balloc (((w.alloc (.cells #[.slice sa g.S.length sc, .slice aa g.A.length ac, .slice ta g.T.length tc] 26)).alloc (.cells #[.slice ua l.length uc] 33)).alloc (.cells #[.slice none 0 0, .slice none 0 0, .slice none 0 0] 26)) (.cells #[.func (.func 78) #[] #[.pointer (some ⟨w.heap.size + 1, 0, none⟩)]] 76)
  have hb := ((hb1.trans (hb2.mono hb1.size)).trans (hb3.mono (hb1.trans (hb2.mono hb1.size)).size)).trans (hb4.mono ((hb1.trans (hb2.mono hb1.size)).trans (hb3.mono (hb1.trans (hb2.mono hb1.size)).size)).size)
  have x1 := bheap hb4 (bheap hb3 (heap_alloc_at (w.alloc (.cells #[.slice sa g.S.length sc, .slice aa g.A.length ac, .slice ta g.T.length tc] 26)) (.cells #[.slice ua l.length uc] 33) (w.heap.size + 1) (by simp)))
  have x2 := bheap hb4 (heap_alloc_at ((w.alloc (.cells #[.slice sa g.S.length sc, .slice aa g.A.length ac, .slice ta g.T.length tc] 26)).alloc (.cells #[.slice ua l.length uc] 33)) (.cells #[.slice none 0 0, .slice none 0 0, .slice none 0 0] 26) (w.heap.size + 1 + 1) (by simp))
  have x3 := heap_alloc_at (((w.alloc (.cells #[.slice sa g.S.length sc, .slice aa g.A.length ac, .slice ta g.T.length tc] 26)).alloc (.cells #[.slice ua l.length uc] 33)).alloc (.cells #[.slice none 0 0, .slice none 0 0, .slice none 0 0] 26)) (.cells #[.func (.func 78) #[] #[.pointer (some ⟨w.heap.size + 1, 0, none⟩)]] 76) (w.heap.size + 1 + 1 + 1) (by simp)
  have y0 := cell_of_block (bheap hb4 (bheap hb3 (bheap hb2 (heap_alloc_new w (.cells #[.slice sa g.S.length sc, .slice aa g.A.length ac, .slice ta g.T.length tc] 26))))) 0 _ rfl
  have y1 := cell_of_block (bheap hb4 (bheap hb3 (bheap hb2 (heap_alloc_new w (.cells #[.slice sa g.S.length sc, .slice aa g.A.length ac, .slice ta g.T.length tc] 26))))) 1 _ rfl
  have y2 := cell_of_block (bheap hb4 (bheap hb3 (bheap hb2 (heap_alloc_new w (.cells #[.slice sa g.S.length sc, .slice aa g.A.length ac, .slice ta g.T.length tc] 26))))) 2 _ rfl
  have HM := Lib.hid (made_any 79 #[.pointer (some ⟨w.heap.size + 1 + 1 + 1, 0, none⟩)] (keepE l) _ g _ (h.below hb) (keep_tell l _ _ (w.heap.size + 1) (w.heap.size + 1 + 1 + 1) (hu.below hb) hl (cell_of_block x1 0 _ rfl) (cell_of_block x3 0 _ rfl)))
  have X0 := Lib.hid x2
  have HB := Lib.hid hb
  have E := Lib.hid (show madeG g (keepE l) = keepG g l from rfl)
  rw [E.out] at HM
  clear h hu hb hb1 hb2 hb3 hb4 x1 x2 x3
  generalize keepG g l = G at *
  clear E
  go_enter Try.func36, Try.ntmps36
  go_wp2_with (first
    | (go_at_call 76; refine HM.out.mono ?_; rintro e w1 ⟨v1, rfl, hG, hb1⟩; obtain ⟨s1, s2, s3, c1, c2, c3, rfl, -⟩ := hG.var; have l1 := bheap hb1 X0.out; have r0 := cell_of_block l1 0 _ rfl; have r1 := cell_of_block l1 1 _ rfl; have r2 := cell_of_block l1 2 _ rfl; have g0 := free_of_block l1 0; have g1 := free_of_block l1 1; have g2 := free_of_block l1 2; have HB1 := Lib.hid (HB.out.trans (hb1.mono HB.out.size)); have L1 := Lib.hid l1; have HG := Lib.hid hG; clear hb1 l1 hG))
  obtain ⟨q1, q2, q3, q4⟩ := ret3 L1.out (.slice s1 G.S.length c1) (.slice s2 G.A.length c2) (.slice s3 G.T.length c3)
  refine bodyPost_ret (v := .agg #[.slice s1 G.S.length c1, .slice s2 G.A.length c2, .slice s3 G.T.length c3]) (by simp [results, Try.results36, go_sem, q1, q2, q3]) rfl ?_
  exact ⟨_, rfl, HG.out.off L1.out q4, HB1.out.trans (q4.below (fun k hk => by omega) HB1.out.size)⟩
end Go.Proofs.Ytnlaonppgebpoaa
