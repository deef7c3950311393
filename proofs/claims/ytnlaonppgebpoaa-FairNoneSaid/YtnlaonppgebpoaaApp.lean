/-
  The closures that append an edge to what they captured: edges.Out$1, All$1. (Written by gen_app.py.)
-/
import Derived.Test.YtnlaonppgebpoaaEach
import Derived.Deep.AppendLies
namespace Go.Proofs.Ytnlaonppgebpoaa
open Go.RowKit
theorem Try.info44 : (Try.prog.info? 44).map (fun i => (i.zero, i.size, i.bytes)) = some (some (.agg #[.int .i64 0, .int .i64 0, .int .i64 0]), 3, 24) := by kernel_rfl

theorem ownsRow_frm {F : Nat → Prop} {w w' : World} {base : Nat} {e : TypeId} {size : Nat} {v : Value} {n : Nat} {xs : List Value} (h : w.ownsRow base e size v n xs) (hf : Frm F w w') (hF : ∀ k, v.ownBlock = some k → ¬ F k) : w'.ownsRow base e size v n xs := by
  refine ⟨h.1, ?_⟩
  rcases h.2 with hn | ⟨g, cap, cur, rfl, hb, hg, r⟩
  · exact .inl hn
  · exact .inr ⟨g, cap, cur, rfl, hb, hf.heap hg (hF g rfl), r⟩

/-- the cells of a list of edges -/
def edCells (l : List Ed) : List Value := l.flatMap (fun e => [.int .i64 e.1, .int .i64 e.2.1, .int .i64 e.2.2])
theorem edCells_append (l k : List Ed) : edCells (l ++ k) = edCells l ++ edCells k := by simp [edCells]
theorem edCells_len (l : List Ed) : (edCells l).length = l.length * 3 := by
  induction l with
  | nil => rfl
  | cons e l ih => simp only [edCells, List.flatMap_cons, List.length_append, List.length_cons, List.length_nil] at ih ⊢; omega
theorem edCells_get (l : List Ed) : ∀ j, j < l.length → (edCells l)[j * 3]? = some (.int .i64 (l.getD j (0, 0, 0)).1) ∧ (edCells l)[j * 3 + 1]? = some (.int .i64 (l.getD j (0, 0, 0)).2.1) ∧ (edCells l)[j * 3 + 2]? = some (.int .i64 (l.getD j (0, 0, 0)).2.2) := by
  induction l with
  | nil => intro j hj; simp at hj
  | cons e l ih =>
    intro j hj
    cases j with
    | zero => simp [edCells]
    | succ j =>
      have := ih j (by simpa using hj)
      have e0 : (j + 1) * 3 = j * 3 + 3 := by omega
      rw [e0]
      simpa [edCells] using this

/-- Behind block lv stands a row of the call's own that holds l; nothing else has turned. -/
structure App (W : World) (lv : Nat) (l : List Ed) (w' : World) : Prop where
  frm : Frm (fun k => k = lv) W w'
  own : ∃ v, w'.heap[lv]? = some (.cells #[v] 22 (0, 0)) ∧ w'.ownsRow W.heap.size 44 3 v l.length (edCells l)

theorem ownsRow_edges {w : World} {base : Nat} {v : Value} {l : List Ed} (h : w.ownsRow base 44 3 v l.length (edCells l)) : EdgesAt w v l := by
  rcases h.2 with ⟨rfl, h0⟩ | ⟨g, cap, cur, rfl, hb, hg, hn, hc, hs, ht⟩
  · have : l = [] := List.eq_nil_of_length_eq_zero h0
    subst this
    exact edgesAt_nil w
  · refine ⟨_, cap, rfl, fun j hj => ⟨g, 0, rfl, ?_⟩⟩
    obtain ⟨e1, e2, e3⟩ := edCells_get l j hj
    rw [← ht, List.getElem?_take] at e1 e2 e3
    rw [if_pos (by omega)] at e1 e2 e3
    refine ⟨?_, ?_, ?_⟩
    · rw [Nat.zero_add]; exact cell_of_block hg _ _ (by simpa using e1)
    · rw [Nat.zero_add]; exact cell_of_block hg _ _ (by simpa using e2)
    · rw [Nat.zero_add]; exact cell_of_block hg _ _ (by simpa using e3)
theorem App.drew {W : World} {lv : Nat} {l : List Ed} {w' : World} (h : App W lv l w') : App W lv l w'.drew := ⟨h.frm.drew, h.own⟩

/-- what stands behind an append to it -/
theorem app_step {W : World} {lv : Nat} {l : List Ed} {w' : World} {v : Value} (hlv : lv < W.heap.size) (hf : Frm (fun k => k = lv) W w') (h1 : w'.heap[lv]? = some (.cells #[v] 22 (0, 0))) (h2 : w'.ownsRow W.heap.size 44 3 v l.length (edCells l))
    {o1 o2 : Obj} {w4 : World} (hg : ((w'.alloc o1).alloc o2).grownBy w4 v.ownBlock) : w4.cell? ⟨lv, 0, none⟩ = some v ∧ w4.frozen? ⟨lv, 0, none⟩ = false ∧ Frm (fun k => k = lv) W w4 ∧ w4.heap[lv]? = some (.cells #[v] 22 (0, 0)) := by
  have hne : ∀ k, v.ownBlock = some k → W.heap.size ≤ k := fun k hk => (h2.lt k hk).1
  have hlt : lv < w'.heap.size := (Array.getElem?_eq_some_iff.1 h1).1
  have h3 : ((w'.alloc o1).alloc o2).heap[lv]? = some (.cells #[v] 22 (0, 0)) := bheap (balloc _ _) (bheap (balloc _ _) h1)
  have h4 : w4.heap[lv]? = some (.cells #[v] 22 (0, 0)) := by
    rw [hg.block lv (by simp; omega) (fun e => by have := hne lv e.symm; omega)]; exact h3
  refine ⟨cell_of_block h4 0 _ rfl, free_of_block h4 0, ?_, h4⟩
  exact ((hf.alloc o1).alloc o2).grown hg (fun k hk hlt => by have := hne k hk; omega)

theorem app_done {W : World} {lv : Nat} {l : List Ed} {e : Ed} {w4 : World} {v : Value} {g cap : Nat} (hlv : lv < W.heap.size) (hf : Frm (fun k => k = lv) W w4) (h4 : w4.heap[lv]? = some (.cells #[v] 22 (0, 0)))
    (hown : w4.ownsRow W.heap.size 44 3 (.slice (some ⟨g, 0, none⟩) (l.length + 1) cap) (l.length + 1) (edCells l ++ [.int .i64 e.1, .int .i64 e.2.1, .int .i64 e.2.2])) :
    App W lv (l ++ [e]) (w4.setCell ⟨lv, 0, none⟩ (.slice (some ⟨g, 0, none⟩) (l.length + 1) cap)) := by
  refine ⟨hf.setCell (p := ⟨lv, 0, none⟩) (fun _ => rfl) _, .slice (some ⟨g, 0, none⟩) (l.length + 1) cap, ?_, ?_⟩
  · rw [heap_setCell_block h4]; rfl
  · have hg : W.heap.size ≤ g := (hown.lt g rfl).1
    have := ownsRow_frm (F := fun k => k = lv) hown ((Frm.refl (fun k => k = lv) w4).setCell (p := ⟨lv, 0, none⟩) (fun _ => rfl) (.slice (some ⟨g, 0, none⟩) (l.length + 1) cap)) (fun k hk e => by simp [Value.ownBlock] at hk; omega)
    rw [edCells_append]
    simpa [edCells] using this

set_option maxHeartbeats 4000000 in
theorem app_ok74 (W : World) (lv : Nat) (l : List Ed) (x y z : Int) (w : World) (hlv : lv < W.heap.size) (h : App W lv l w) (hl : l.length < 1000000) :
    Calls Try.prog 74 #[.agg #[.int .i64 x, .int .i64 y, .int .i64 z], .pointer (some ⟨lv, 0, none⟩)] w fun e w' => e = .returned (.tuple #[]) ∧ App W lv (l ++ [(x, y, z)]) w' := by
  obtain ⟨i0, hi0, hz0, hz1, hz2⟩ := info_parts Try.info44
  obtain ⟨hf, v, h1, h2⟩ := h
  have hsz := hf.size
  have c0 : (w.alloc (.cells #[.int .i64 x, .int .i64 y, .int .i64 z] 44)).cell? ⟨lv, 0, none⟩ = some v := bkeep (balloc _ _) (cell_of_block h1 0 _ rfl)
  have hne : lv ≠ w.heap.size := by omega
  have H1 := Lib.hid h1
  have H2 := Lib.hid h2
  have HF := Lib.hid hf
  clear h1 h2 hf
  go_enter Try.func74, Try.ntmps74
  go_wp2_with (at_builtin; refine wpList_append_lies ((w.alloc (.cells #[.int .i64 x, .int .i64 y, .int .i64 z] 44)).alloc (.cells #[.int .i64 x, .int .i64 y, .int .i64 z] 44)) rfl (.tmp 3) (.tmp 5) 22 rfl W.heap.size 44 i0 (.agg #[.int .i64 0, .int .i64 0, .int .i64 0]) 3 24 Try.underlying22 hi0 hz0 hz1 hz2 rfl (by decide) v l.length (edCells l) rfl ((H2.out.alloc _).alloc _) ⟨w.heap.size + 1, 0, none⟩ 1 1 [.int .i64 x, .int .i64 y, .int .i64 z] rfl rfl (World.news_of_block (heap_alloc_at _ _ _ (by simp))) (by simp [Value.oneCell']) (by omega) (by unfold maxLen; omega) (by omega) (by simp; omega) (w.heap.size + 1 + 1) (by simp) ?_; intro g2 cap2 w4 hown2 hgr2 hor2 hlt2; obtain ⟨q0, q1, q2, q3⟩ := app_step hlv HF.out H1.out H2.out hgr2; have HO := Lib.hid hown2; clear hgr2 hown2)
  go_end0
  exact ⟨rfl, app_done (e := (x, y, z)) hlv q2 q3 HO.out⟩

set_option maxHeartbeats 4000000 in
theorem app_ok75 (W : World) (lv : Nat) (l : List Ed) (x y z : Int) (w : World) (hlv : lv < W.heap.size) (h : App W lv l w) (hl : l.length < 1000000) :
    Calls Try.prog 75 #[.agg #[.int .i64 x, .int .i64 y, .int .i64 z], .pointer (some ⟨lv, 0, none⟩)] w fun e w' => e = .returned (.tuple #[]) ∧ App W lv (l ++ [(x, y, z)]) w' := by
  obtain ⟨i0, hi0, hz0, hz1, hz2⟩ := info_parts Try.info44
  obtain ⟨hf, v, h1, h2⟩ := h
  have hsz := hf.size
  have c0 : (w.alloc (.cells #[.int .i64 x, .int .i64 y, .int .i64 z] 44)).cell? ⟨lv, 0, none⟩ = some v := bkeep (balloc _ _) (cell_of_block h1 0 _ rfl)
  have hne : lv ≠ w.heap.size := by omega
  have H1 := Lib.hid h1
  have H2 := Lib.hid h2
  have HF := Lib.hid hf
  clear h1 h2 hf
  go_enter Try.func75, Try.ntmps75
  go_wp2_with (at_builtin; refine wpList_append_lies ((w.alloc (.cells #[.int .i64 x, .int .i64 y, .int .i64 z] 44)).alloc (.cells #[.int .i64 x, .int .i64 y, .int .i64 z] 44)) rfl (.tmp 3) (.tmp 5) 22 rfl W.heap.size 44 i0 (.agg #[.int .i64 0, .int .i64 0, .int .i64 0]) 3 24 Try.underlying22 hi0 hz0 hz1 hz2 rfl (by decide) v l.length (edCells l) rfl ((H2.out.alloc _).alloc _) ⟨w.heap.size + 1, 0, none⟩ 1 1 [.int .i64 x, .int .i64 y, .int .i64 z] rfl rfl (World.news_of_block (heap_alloc_at _ _ _ (by simp))) (by simp [Value.oneCell']) (by omega) (by unfold maxLen; omega) (by omega) (by simp; omega) (w.heap.size + 1 + 1) (by simp) ?_; intro g2 cap2 w4 hown2 hgr2 hor2 hlt2; obtain ⟨q0, q1, q2, q3⟩ := app_step hlv HF.out H1.out H2.out hgr2; have HO := Lib.hid hown2; clear hgr2 hown2)
  go_end0
  exact ⟨rfl, app_done (e := (x, y, z)) hlv q2 q3 HO.out⟩
end Go.Proofs.Ytnlaonppgebpoaa
