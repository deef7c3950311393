/-
  edges.Reach: the walk.
-/
import Derived.Test.YtnlaonppgebpoaaReachMem
import Derived.Test.YtnlaonppgebpoaaOut
namespace Go.Proofs.Ytnlaonppgebpoaa
open Go.RowKit
theorem Try.info4 : (Try.prog.info? 4).map (fun i => (i.zero, i.size, i.bytes)) = some (some (.bool false), 1, 1) := by kernel_rfl

set_option maxRecDepth 100000 in
set_option maxHeartbeats 4000000 in
theorem reach2_ok (w : World) (gc : Array Value) (B C n : Nat) (s : VS) (e : Ed) (wr : World) (h : ReSt w wr gc B C n s) (hn : n ≤ 1000000) :
    Calls Try.prog 82 #[.agg #[.int .i64 e.1, .int .i64 e.2.1, .int .i64 e.2.2], .pointer (some ⟨C + 2, 0, none⟩)] wr fun e' w' => e' = .returned (.tuple #[]) ∧ ReSt w w' gc B C n (visitS n s e.2.2) ∧ Keep26 wr w' := by
  obtain ⟨x, y, z⟩ := e
  have hE' : ∀ (args : Array Value) (w : World), (callFunc 81 args).run Try.prog w = .ok (.enter 81 args) w := enters_of Try.func81 (by kernel_rfl) rfl
  have h1 := h.more (balloc wr (.cells #[.int .i64 x, .int .i64 y, .int .i64 z] 44))
  have HV := Lib.hid (visit_ok w gc B C n s z _ h1 hn)
  have cv := cell_of_block h1.vv 0 _ rfl
  show Calls Try.prog 82 _ wr fun e' w' => e' = .returned (.tuple #[]) ∧ ReSt w w' gc B C n (visitS n s z) ∧ Keep26 wr w'
  clear h h1
  go_enter Try.func82, Try.ntmps82
  go_wp2_with (go_at_fn 81; refine HV.out.mono ?_; rintro e' w' ⟨rfl, hR, hK⟩)
  go_end0
  exact ⟨rfl, hR, (Keep26.of_below (balloc wr _)).trans hK⟩

/-- a list of truths, as a call hands it back -/
def BoolsBack (w : World) (l : List Bool) (e : Ending) (w' : World) : Prop := ∃ v, e = .returned v ∧ BoolsAt w' v l ∧ Below w.heap.size w w'

theorem rest_intro {w w2 w3 : World} {gc : Array Value} {n : Nat} (hb : Below w.heap.size w w2) (hlt : w.heap.size < w2.heap.size) (hg : w2.heap[w.heap.size]? = some (.cells gc 26 (0, 0)))
    (hb3 : Below (w2.alloc (.cells #[.int .i64 (n : Nat)] 3)).heap.size (w2.alloc (.cells #[.int .i64 (n : Nat)] 3)) w3) (hh3 : w3.heap[(w2.alloc (.cells #[.int .i64 (n : Nat)] 3)).heap.size]? = some (.cells (List.replicate n (Value.bool false)).toArray 4 (0, 0))) :
    ReSt w (((w3.alloc (.cells #[.slice (some ⟨w2.heap.size + 1, 0, none⟩) n n] 33)).alloc (.cells #[.slice none 0 0] 24)).alloc (.cells #[.func (.func 81) #[] #[.pointer (some ⟨w2.heap.size, 0, none⟩), .pointer (some ⟨w3.heap.size, 0, none⟩), .pointer (some ⟨w3.heap.size + 1, 0, none⟩)]] 78))
      gc w2.heap.size w3.heap.size n (List.replicate n false, []) := by
  have h0 := balloc w2 (.cells #[.int .i64 (n : Nat)] 3)
  have h4 := balloc w3 (.cells #[.slice (some ⟨w2.heap.size + 1, 0, none⟩) n n] 33)
  have h5 := balloc (w3.alloc (.cells #[.slice (some ⟨w2.heap.size + 1, 0, none⟩) n n] 33)) (.cells #[.slice none 0 0] 24)
  have h6 := balloc ((w3.alloc (.cells #[.slice (some ⟨w2.heap.size + 1, 0, none⟩) n n] 33)).alloc (.cells #[.slice none 0 0] 24)) (.cells #[.func (.func 81) #[] #[.pointer (some ⟨w2.heap.size, 0, none⟩), .pointer (some ⟨w3.heap.size, 0, none⟩), .pointer (some ⟨w3.heap.size + 1, 0, none⟩)]] 78)
  have hlt3 := (Array.getElem?_eq_some_iff.1 hh3).1
  rw [World.size_alloc] at hh3 hlt3
  have ha : Below w.heap.size w (w2.alloc (.cells #[.int .i64 (n : Nat)] 3)) := hb.trans (h0.mono hb.size)
  have hw3 : Below w.heap.size w w3 := ha.trans (hb3.mono ha.size)
  refine ⟨((hw3.trans (h4.mono hw3.size)).trans (h5.mono (hw3.trans (h4.mono hw3.size)).size)).trans (h6.mono ((hw3.trans (h4.mono hw3.size)).trans (h5.mono (hw3.trans (h4.mono hw3.size)).size)).size), hlt, by omega, ?_, ?_, ?_, ?_, ⟨.slice none 0 0, ?_, ⟨rfl, .inl ⟨rfl, rfl⟩⟩⟩, ?_, by simp, ?_⟩
  · exact bheap h6 (bheap h5 (bheap h4 (bheap hb3 (bheap h0 hg))))
  · exact bheap h6 (bheap h5 (bheap h4 (bheap hb3 (heap_alloc_new w2 _))))
  · rw [bools_replicate]; exact bheap h6 (bheap h5 (bheap h4 hh3))
  · exact bheap h6 (bheap h5 (heap_alloc_new w3 _))
  · exact bheap h6 (heap_alloc_at _ _ _ (by simp))
  · exact heap_alloc_at _ _ _ (by simp)
  · have := falses_le (List.replicate n false); simp at this ⊢; omega
theorem visitAll_take (n : Nat) (s : VS) (l : List Int) (k : Nat) (hk : k < l.length) : visitAll n s (l.take (k + 1)) = visitS n (visitAll n s (l.take k)) (l.getD k 0) := by
  rw [List.take_add_one, List.getElem?_eq_getElem hk, Option.toList_some, visitAll_snoc]
  simp [List.getD, hk]

theorem each_reach {g : Gr} {v : Value} {w w2 : World} {gc : Array Value} {B C n : Nat} {s : VS} (hg : GraphAt w v g) (hR : Rt g) (h : ReSt w w2 gc B C n s) (hn : n ≤ 1000000) (i : Nat) (b : Int) (hb : b = (i : Int) + 1) (hi : i + 1 < g.S.length) :
    Calls Try.prog 73 #[v, .int .i64 (i : Nat), .int .i64 b, .func (.func 82) #[] #[.pointer (some ⟨C + 2, 0, none⟩)]] w2 fun e w' => e = .returned (.tuple #[]) ∧ ReSt w w' gc B C n (visitAll n s ((eds g i).map (fun e => e.2.2))) := by
  have h4 := hg.sS
  have h6 := hg.sT
  have hE : Enters Try.prog 82 := enters_of Try.func82 (by kernel_rfl) rfl
  obtain ⟨sa, aa, ta, sc, ac, tc, rfl, -⟩ := hg.var
  have hbx := balloc w2 (.cells #[.slice sa g.S.length sc, .slice aa g.A.length ac, .slice ta g.T.length tc] 26)
  have e0 : eds g i = span g i 1 := (span_one g i).symm
  rw [e0]
  have key := each_ok (sa := sa) (aa := aa) (ta := ta) (sc := sc) (ac := ac) (tc := tc) (w := w2) hR h4 h6 82 hE #[.pointer (some ⟨C + 2, 0, none⟩)] i 1 b (by simpa using hb) (by omega)
    (fun pre w' => ReSt w w' gc B C n (visitAll n s (pre.map (fun e => e.2.2))) ∧ Keep26 (w2.alloc (.cells #[.slice sa g.S.length sc, .slice aa g.A.length ac, .slice ta g.T.length tc] 26)) w') ?_ ?_ ?_ ?_
  · refine key.mono ?_
    rintro e w' ⟨rfl, h, -⟩
    exact ⟨rfl, h⟩
  · rintro pre w' ⟨h, hk⟩
    exact gvar_of hg h.below (hk _ _ _ (heap_alloc_new w2 _))
  · exact ⟨h.more hbx, Keep26.refl _⟩
  · exact fun pre w' h => ⟨h.1.drew, h.2⟩
  · rintro pre j k w' ⟨h, hk⟩ _ _ _ _ _
    refine (reach2_ok w gc B C n _ (edge g j k) w' h hn).mono ?_
    rintro e w'' ⟨rfl, h', hk'⟩
    refine ⟨rfl, ?_, hk.trans hk'⟩
    rw [List.map_append, List.map_cons, List.map_nil, visitAll_snoc]
    exact h'
end Go.Proofs.Ytnlaonppgebpoaa
