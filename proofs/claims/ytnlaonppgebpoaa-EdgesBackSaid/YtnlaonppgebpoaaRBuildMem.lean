/-
  The reference's Build: its own memory: a graph in a variable, its three rows the call's own.
-/
import Derived.Test.YtnlaonppgebpoaaGraph
import Derived.Test.YtnlaonppgebpoaaBuildMem
import Derived.Test.YtnlaonppgebpoaaApp
namespace Go.Proofs.Ytnlaonppgebpoaa
open Go.RowKit

def intCells (l : List Int) : List Value := l.map (fun x : Int => Value.int .i64 x)
theorem ownsRow_ints {w : World} {base : Nat} {v : Value} {l : List Int} (h : w.ownsRow base 3 1 v l.length (intCells l)) : IntsAt w v l := by
  rcases h.2 with ⟨rfl, h0⟩ | ⟨g, cap, cur, rfl, hb, hg, hn, hc, hs, ht⟩
  · have : l = [] := List.eq_nil_of_length_eq_zero h0
    subst this
    exact intsAt_nil w
  · refine ⟨_, cap, rfl, fun j hj => ⟨g, 0, rfl, ?_⟩⟩
    rw [Nat.zero_add]
    refine cell_of_block hg j _ ?_
    have e : (intCells l)[j]? = some (.int .i64 (l.getD j 0)) := by simp [intCells, List.getD, hj]
    rw [← ht, List.getElem?_take, if_pos (by omega)] at e
    simpa using e

/-- The variable's block: w.heap.size + 1; its rows: vs 0, vs 1, vs 2. -/
structure RSt (w wr : World) (vs : Nat → Value) (Ls : Nat → List Int) : Prop where
  below : Below w.heap.size w wr
  res : wr.heap[w.heap.size]? = some (.cells #[.slice none 0 0, .slice none 0 0, .slice none 0 0] 26 (0, 0))
  lg : wr.heap[w.heap.size + 1]? = some (.cells #[vs 0, vs 1, vs 2] 26 (0, 0))
  own : ∀ i, i < 3 → wr.ownsRow (w.heap.size + 2) 3 1 (vs i) (Ls i).length (intCells (Ls i))
  dis : ∀ i j, i < 3 → j < 3 → i ≠ j → ∀ k, (vs i).ownBlock = some k → (vs j).ownBlock ≠ some k

def upd {α : Type} (f : Nat → α) (i : Nat) (v : α) : Nat → α := fun j => if j = i then v else f j
theorem upd_same {α : Type} (f : Nat → α) (i : Nat) (v : α) : upd f i v i = v := by simp [upd]
theorem upd_other {α : Type} (f : Nat → α) (i j : Nat) (v : α) (h : j ≠ i) : upd f i v j = f j := by simp [upd, h]

theorem RSt.size {w wr : World} {vs : Nat → Value} {Ls : Nat → List Int} (h : RSt w wr vs Ls) : w.heap.size + 2 ≤ wr.heap.size := (Array.getElem?_eq_some_iff.1 h.lg).1
theorem RSt.cell {w wr : World} {vs : Nat → Value} {Ls : Nat → List Int} (h : RSt w wr vs Ls) : wr.cell? ⟨w.heap.size + 1, 0, none⟩ = some (vs 0) ∧ wr.cell? ⟨w.heap.size + 1, 1, none⟩ = some (vs 1) ∧ wr.cell? ⟨w.heap.size + 1, 2, none⟩ = some (vs 2) :=
  ⟨cell_of_block h.lg 0 _ rfl, cell_of_block h.lg 1 _ rfl, cell_of_block h.lg 2 _ rfl⟩
theorem RSt.len {w wr : World} {vs : Nat → Value} {Ls : Nat → List Int} (h : RSt w wr vs Ls) {i : Nat} (hi : i < 3) : ∃ a cap, vs i = .slice a (Ls i).length cap := by
  rcases (h.own i hi).2 with ⟨e, h0⟩ | ⟨g, cap, cur, e, -⟩
  · exact ⟨none, 0, by rw [e, h0]⟩
  · exact ⟨_, cap, e⟩

theorem rst_start (w : World) : RSt w ((w.alloc (.cells #[.slice none 0 0, .slice none 0 0, .slice none 0 0] 26)).alloc (.cells #[.slice none 0 0, .slice none 0 0, .slice none 0 0] 26)) (fun _ => .slice none 0 0) (fun _ => []) :=
  ⟨((Below.refl _ _).alloc (Nat.le_refl _) _).alloc (by simp) _, bheap (balloc _ _) (heap_alloc_new w _), heap_alloc_at _ _ _ (by simp), fun i _ => ⟨rfl, .inl ⟨rfl, rfl⟩⟩, fun i j _ _ _ k h => by simp [Value.ownBlock] at h⟩

/-- the row of field f by one number longer -/
theorem RSt.step {w wr : World} {vs : Nat → Value} {Ls : Nat → List Int} (h : RSt w wr vs Ls) (f : Nat) (hf : f < 3) (x : Int) {w2 w4 : World} {g cap : Nat} (h2 : Below wr.heap.size wr w2)
    (hg : w2.grownBy w4 (vs f).ownBlock) (hor : (vs f).ownBlock = some g ∨ g = w2.heap.size)
    (hown : w4.ownsRow (w.heap.size + 2) 3 1 (.slice (some ⟨g, 0, none⟩) ((Ls f).length + 1) cap) ((Ls f).length + 1) (intCells (Ls f) ++ [.int .i64 x])) :
    w4.cell? ⟨w.heap.size + 1, f, none⟩ = some (vs f) ∧ w4.frozen? ⟨w.heap.size + 1, f, none⟩ = false ∧
    RSt w (w4.setCell ⟨w.heap.size + 1, f, none⟩ (.slice (some ⟨g, 0, none⟩) ((Ls f).length + 1) cap)) (upd vs f (.slice (some ⟨g, 0, none⟩) ((Ls f).length + 1) cap)) (upd Ls f (Ls f ++ [x])) := by
  have hsz := h.size
  have hbl : ∀ i, i < 3 → ∀ k, (vs i).ownBlock = some k → w.heap.size + 2 ≤ k ∧ k < wr.heap.size := fun i hi k hk => (h.own i hi).lt k hk
  have k1 : w4.heap[w.heap.size + 1]? = some (.cells #[vs 0, vs 1, vs 2] 26 (0, 0)) := by
    rw [hg.block _ (by have := h2.size; omega) (fun e => by have := hbl f hf _ e.symm; omega)]
    exact bheap h2 h.lg
  have k0 : w4.heap[w.heap.size]? = some (.cells #[.slice none 0 0, .slice none 0 0, .slice none 0 0] 26 (0, 0)) := by
    rw [hg.block _ (by have := h2.size; omega) (fun e => by have := hbl f hf _ e.symm; omega)]
    exact bheap h2 h.res
  have hvf : (#[vs 0, vs 1, vs 2])[f]? = some (vs f) := by
    rcases f with _ | _ | _ | f <;> first | rfl | omega
  have hgb : w.heap.size + 2 ≤ g := (hown.lt g rfl).1
  refine ⟨cell_of_block k1 f _ hvf, free_of_block k1 f, ?_, ?_, ?_, ?_, ?_⟩
  · exact ((h.below.trans (h2.mono h.below.size)).grown hg (by have := h2.size; omega) (fun k hk => by have := hbl f hf k hk; omega)).setCell (p := ⟨w.heap.size + 1, f, none⟩) (by show w.heap.size ≤ w.heap.size + 1; omega) _
  · rw [Below.heap_setCell _ _ _ _ (by show w.heap.size ≠ w.heap.size + 1; omega)]; exact k0
  · rw [heap_setCell_block k1]
    congr 1
    rcases f with _ | _ | _ | f
    · rfl
    · rfl
    · rfl
    · omega
  · intro i hi
    by_cases e : i = f
    · subst e
      rw [upd_same, upd_same]
      have := ownsRow_frm (F := fun k => k = w.heap.size + 1) hown ((Frm.refl (fun k => k = w.heap.size + 1) w4).setCell (p := ⟨w.heap.size + 1, i, none⟩) (fun _ => rfl) (.slice (some ⟨g, 0, none⟩) ((Ls i).length + 1) cap)) (fun k hk e => by simp [Value.ownBlock] at hk; omega)
      simpa [intCells] using this
    · rw [upd_other _ _ _ _ e, upd_other _ _ _ _ e]
      refine ownsRow_frm (F := fun k => k = w.heap.size + 1 ∨ (vs f).ownBlock = some k) (h.own i hi) ?_ ?_
      · refine Frm.setCell ?_ (p := ⟨w.heap.size + 1, f, none⟩) (fun _ => .inl rfl) _
        exact (bfrm h2 _).grown hg (fun k hk _ => .inr hk)
      · rintro k hk (rfl | e2)
        · have := hbl i hi _ hk; omega
        · exact h.dis i f hi hf e k hk e2
  · intro i j hi hj hij k hk hk2
    have hnew : ∀ m, m < 3 → m ≠ f → ∀ q, (vs m).ownBlock = some q → q ≠ g := by
      intro m hm hmf q hq e
      subst e
      rcases hor with e2 | e2
      · exact h.dis m f hm hf hmf q hq e2
      · have := hbl m hm q hq
        have := h2.size
        omega
    by_cases e : i = f
    · subst e
      rw [upd_same] at hk
      rw [upd_other _ _ _ _ (Ne.symm hij)] at hk2
      simp [Value.ownBlock] at hk
      exact hnew j hj (Ne.symm hij) k hk2 hk.symm
    · by_cases e2 : j = f
      · subst e2
        rw [upd_same] at hk2
        rw [upd_other _ _ _ _ e] at hk
        simp [Value.ownBlock] at hk2
        exact hnew i hi e k hk hk2.symm
      · rw [upd_other _ _ _ _ e] at hk
        rw [upd_other _ _ _ _ e2] at hk2
        exact h.dis i j hi hj hij k hk hk2
theorem RSt.drew {w wr : World} {vs : Nat → Value} {Ls : Nat → List Int} (h : RSt w wr vs Ls) : RSt w wr.drew vs Ls := ⟨h.below.drew, h.res, h.lg, h.own, h.dis⟩
theorem RSt.to {w wr : World} {vs : Nat → Value} {Ls Ls' : Nat → List Int} (h : RSt w wr vs Ls) (h0 : Ls 0 = Ls' 0) (h1 : Ls 1 = Ls' 1) (h2 : Ls 2 = Ls' 2) : RSt w wr vs Ls' := by
  refine ⟨h.below, h.res, h.lg, ?_, h.dis⟩
  intro i hi
  have e : Ls i = Ls' i := by rcases i with _ | _ | _ | i <;> first | assumption | omega
  rw [← e]; exact h.own i hi

theorem RSt.step' {w wr : World} {vs : Nat → Value} {Ls : Nat → List Int} (h : RSt w wr vs Ls) (f : Nat) (hf : f < 3) (x : Int) (n : Nat) (hn : (Ls f).length = n) {w2 w4 : World} {g cap : Nat} (h2 : Below wr.heap.size wr w2)
    (hg : w2.grownBy w4 (vs f).ownBlock) (hor : (vs f).ownBlock = some g ∨ g = w2.heap.size)
    (hown : w4.ownsRow (w.heap.size + 2) 3 1 (.slice (some ⟨g, 0, none⟩) (n + 1) cap) (n + 1) (intCells (Ls f) ++ [.int .i64 x])) :
    w4.cell? ⟨w.heap.size + 1, f, none⟩ = some (vs f) ∧ w4.frozen? ⟨w.heap.size + 1, f, none⟩ = false ∧
    ∃ us, RSt w (w4.setCell ⟨w.heap.size + 1, f, none⟩ (.slice (some ⟨g, 0, none⟩) (n + 1) cap)) us (upd Ls f (Ls f ++ [x])) := by
  subst hn
  obtain ⟨a, b, c⟩ := h.step f hf x h2 hg hor hown
  exact ⟨a, b, _, c⟩
theorem RSt.rcell {w wr : World} {vs : Nat → Value} {Ls : Nat → List Int} (h : RSt w wr vs Ls) (p : Nat) (hp : p < 3) : wr.cell? ⟨w.heap.size, p, none⟩ = some (.slice none 0 0) := cell_of_block h.res p _ (by rcases p with _ | _ | _ | p <;> first | rfl | omega)
theorem RSt.rfree {w wr : World} {vs : Nat → Value} {Ls : Nat → List Int} (h : RSt w wr vs Ls) (p : Nat) : wr.frozen? ⟨w.heap.size, p, none⟩ = false := free_of_block h.res p
theorem RSt.ret {w wr : World} {vs : Nat → Value} {Ls : Nat → List Int} (h : RSt w wr vs Ls) (h0 : (Ls 0).length ≤ 1000000) (h1 : (Ls 1).length ≤ 1000000) (h2 : (Ls 2).length ≤ 1000000) (x y z : Value) :
    Below w.heap.size w (((wr.setCell ⟨w.heap.size, 0, none⟩ x).setCell ⟨w.heap.size, 1, none⟩ y).setCell ⟨w.heap.size, 2, none⟩ z) ∧
    (((wr.setCell ⟨w.heap.size, 0, none⟩ x).setCell ⟨w.heap.size, 1, none⟩ y).setCell ⟨w.heap.size, 2, none⟩ z).cell? ⟨w.heap.size, 0, none⟩ = some x ∧
    (((wr.setCell ⟨w.heap.size, 0, none⟩ x).setCell ⟨w.heap.size, 1, none⟩ y).setCell ⟨w.heap.size, 2, none⟩ z).cell? ⟨w.heap.size, 1, none⟩ = some y ∧
    (((wr.setCell ⟨w.heap.size, 0, none⟩ x).setCell ⟨w.heap.size, 1, none⟩ y).setCell ⟨w.heap.size, 2, none⟩ z).cell? ⟨w.heap.size, 2, none⟩ = some z ∧
    GraphAt (((wr.setCell ⟨w.heap.size, 0, none⟩ x).setCell ⟨w.heap.size, 1, none⟩ y).setCell ⟨w.heap.size, 2, none⟩ z) (.agg #[vs 0, vs 1, vs 2]) ⟨Ls 0, Ls 1, Ls 2⟩ := by
  have e1 := heap_setCell_block h.res 0 x
  have e2 := heap_setCell_block e1 1 y
  have e3 := heap_setCell_block e2 2 z
  have hf : Frm (fun k => k = w.heap.size) wr (((wr.setCell ⟨w.heap.size, 0, none⟩ x).setCell ⟨w.heap.size, 1, none⟩ y).setCell ⟨w.heap.size, 2, none⟩ z) :=
    (((Frm.refl (fun k => k = w.heap.size) wr).setCell (p := ⟨w.heap.size, 0, none⟩) (fun _ => rfl) x).setCell (p := ⟨w.heap.size, 1, none⟩) (fun _ => rfl) y).setCell (p := ⟨w.heap.size, 2, none⟩) (fun _ => rfl) z
  have ho : ∀ i, i < 3 → IntsAt (((wr.setCell ⟨w.heap.size, 0, none⟩ x).setCell ⟨w.heap.size, 1, none⟩ y).setCell ⟨w.heap.size, 2, none⟩ z) (vs i) (Ls i) := fun i hi =>
    ownsRow_ints (base := w.heap.size + 2) (ownsRow_frm (h.own i hi) hf (fun k hk e => by have := ((h.own i hi).lt k hk).1; omega))
  refine ⟨((h.below.setCell (p := ⟨w.heap.size, 0, none⟩) (Nat.le_refl _) _).setCell (p := ⟨w.heap.size, 1, none⟩) (Nat.le_refl _) _).setCell (p := ⟨w.heap.size, 2, none⟩) (Nat.le_refl _) _, cell_of_block e3 0 _ rfl, cell_of_block e3 1 _ rfl, cell_of_block e3 2 _ rfl,
    ⟨⟨_, _, _, rfl, ho 0 (by omega), ho 1 (by omega), ho 2 (by omega)⟩, h0, h1, h2⟩⟩

/-- the rows when m nodes are done, and of the next one r edges looked at -/
def rS (l : List Ed) (m : Nat) : List Int := tab (m + 1) (fun i => (cntLt l i : Int))
def rX (l : List Ed) (p : Ed → Int) (m r : Nat) : List Int := flat m l p ++ (outs (l.take r) m).map p
theorem rX_zero (l : List Ed) (p : Ed → Int) (m : Nat) : rX l p m 0 = flat m l p := by simp [rX, outs]
theorem rX_end (l : List Ed) (p : Ed → Int) (m : Nat) : rX l p m l.length = flat (m + 1) l p := by rw [rX, List.take_length, flat_succ]
theorem rX_hit {l : List Ed} {p : Ed → Int} {m r : Nat} (hr : r < l.length) (h : (l.getD r (0, 0, 0)).1 = (m : Int)) : rX l p m (r + 1) = rX l p m r ++ [p (l.getD r (0, 0, 0))] := by
  have e : l.getD r (0, 0, 0) = l[r] := by simp [List.getD, hr]
  rw [e] at h ⊢
  unfold rX outs
  rw [List.take_add_one, List.getElem?_eq_getElem hr, Option.toList_some, List.filter_append, List.map_append, ← List.append_assoc]
  simp [h]
theorem rX_miss {l : List Ed} {p : Ed → Int} {m r : Nat} (hr : r < l.length) (h : ¬ (l.getD r (0, 0, 0)).1 = (m : Int)) : rX l p m (r + 1) = rX l p m r := by
  have e : l.getD r (0, 0, 0) = l[r] := by simp [List.getD, hr]
  rw [e] at h
  unfold rX outs
  rw [List.take_add_one, List.getElem?_eq_getElem hr, Option.toList_some, List.filter_append]
  simp [h]
theorem rX_len (l : List Ed) (p : Ed → Int) (m r : Nat) (h0 : ∀ e ∈ l, 0 ≤ e.1) : (rX l p m r).length ≤ l.length := by
  unfold rX
  rw [List.length_append, flat_len h0, List.length_map]
  have h1 : (outs (l.take r) m).length ≤ cnt l m := cnt_take_le l r m
  have h2 := cntLt_succ l m
  have h3 := cntLt_le l (m + 1)
  omega
/-- the three rows -/
def rL (l : List Ed) (m r : Nat) : Nat → List Int := fun i => if i = 0 then rS l m else if i = 1 then rX l (fun e => e.2.1) m r else rX l (fun e => e.2.2) m r
theorem rS_succ (l : List Ed) (m : Nat) : rS l (m + 1) = rS l m ++ [(cntLt l (m + 1) : Int)] := by
  unfold rS tab; rw [List.range_succ, List.map_append]; rfl
end Go.Proofs.Ytnlaonppgebpoaa
