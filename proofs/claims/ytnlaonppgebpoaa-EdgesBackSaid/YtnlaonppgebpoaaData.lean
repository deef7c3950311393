/-
  What a slice of numbers, of truths, of edges, and a graph, read as.
-/
import Derived.Test.YtnlaonppgebpoaaBase
namespace Go.Proofs.Ytnlaonppgebpoaa
open Go.RowKit

/-- The slice v reads as the numbers xs. -/
def IntsAt (w : World) (v : Value) (xs : List Int) : Prop :=
  ∃ a cap, v = .slice a xs.length cap ∧ ∀ j, j < xs.length → ∃ b off, a = some ⟨b, off, none⟩ ∧ w.cell? ⟨b, off + j, none⟩ = some (.int .i64 (xs.getD j 0))
def BoolsAt (w : World) (v : Value) (xs : List Bool) : Prop :=
  ∃ a cap, v = .slice a xs.length cap ∧ ∀ j, j < xs.length → ∃ b off, a = some ⟨b, off, none⟩ ∧ w.cell? ⟨b, off + j, none⟩ = some (.bool (xs.getD j false))
/-- An edge: whence, by which agent, where. -/
abbrev Ed := Int × Int × Int
def EdgesAt (w : World) (v : Value) (l : List Ed) : Prop :=
  ∃ a cap, v = .slice a l.length cap ∧ ∀ j, j < l.length → ∃ b off, a = some ⟨b, off, none⟩ ∧ w.cell? ⟨b, off + j * 3, none⟩ = some (.int .i64 (l.getD j (0, 0, 0)).1) ∧
    w.cell? ⟨b, off + j * 3 + 1, none⟩ = some (.int .i64 (l.getD j (0, 0, 0)).2.1) ∧ w.cell? ⟨b, off + j * 3 + 2, none⟩ = some (.int .i64 (l.getD j (0, 0, 0)).2.2)

/-- A graph as the program has it. -/
structure Gr where
  S : List Int
  A : List Int
  T : List Int
structure GraphAt (w : World) (v : Value) (g : Gr) : Prop where
  ex : ∃ s a t, v = .agg #[s, a, t] ∧ IntsAt w s g.S ∧ IntsAt w a g.A ∧ IntsAt w t g.T
  sS : g.S.length ≤ 1000000
  sA : g.A.length ≤ 1000000
  sT : g.T.length ≤ 1000000

theorem IntsAt.below {w w' : World} {v : Value} {l : List Int} (h : IntsAt w v l) (hb : Below w.heap.size w w') : IntsAt w' v l :=
  let ⟨a, cap, h1, h2⟩ := h
  ⟨a, cap, h1, fun j hj => let ⟨b, off, e, hc⟩ := h2 j hj; ⟨b, off, e, bkeep hb hc⟩⟩
theorem BoolsAt.below {w w' : World} {v : Value} {l : List Bool} (h : BoolsAt w v l) (hb : Below w.heap.size w w') : BoolsAt w' v l :=
  let ⟨a, cap, h1, h2⟩ := h
  ⟨a, cap, h1, fun j hj => let ⟨b, off, e, hc⟩ := h2 j hj; ⟨b, off, e, bkeep hb hc⟩⟩
theorem EdgesAt.below {w w' : World} {v : Value} {l : List Ed} (h : EdgesAt w v l) (hb : Below w.heap.size w w') : EdgesAt w' v l :=
  let ⟨a, cap, h1, h2⟩ := h
  ⟨a, cap, h1, fun j hj => let ⟨b, off, e, hc, hd, he⟩ := h2 j hj; ⟨b, off, e, bkeep hb hc, bkeep hb hd, bkeep hb he⟩⟩
theorem GraphAt.below {w w' : World} {v : Value} {g : Gr} (h : GraphAt w v g) (hb : Below w.heap.size w w') : GraphAt w' v g :=
  let ⟨⟨s, a, t, e, h1, h2, h3⟩, h4, h5, h6⟩ := h
  ⟨⟨s, a, t, e, h1.below hb, h2.below hb, h3.below hb⟩, h4, h5, h6⟩
theorem balloc (w : World) (o : Obj) : Below w.heap.size w (w.alloc o) := (Below.refl _ _).alloc (Nat.le_refl _) o

theorem intsAt_nil (w : World) : IntsAt w (.slice none 0 0) [] := ⟨none, 0, rfl, fun j hj => by simp at hj⟩
theorem boolsAt_nil (w : World) : BoolsAt w (.slice none 0 0) [] := ⟨none, 0, rfl, fun j hj => by simp at hj⟩
theorem edgesAt_nil (w : World) : EdgesAt w (.slice none 0 0) [] := ⟨none, 0, rfl, fun j hj => by simp at hj⟩
theorem graphAt_nil (w : World) : GraphAt w (.agg #[.slice none 0 0, .slice none 0 0, .slice none 0 0]) ⟨[], [], []⟩ :=
  ⟨⟨_, _, _, rfl, intsAt_nil w, intsAt_nil w, intsAt_nil w⟩, by simp, by simp, by simp⟩

/-- Numbers as a block's cells. -/
def ints (xs : List Int) : Array Value := (xs.map (fun x : Int => Value.int .i64 x)).toArray
theorem ints_get (xs : List Int) (p : Nat) (hp : p < xs.length) : (ints xs)[p]? = some (.int .i64 (xs.getD p 0)) := by
  simp [ints, List.getD, hp]
theorem ints_size (xs : List Int) : (ints xs).size = xs.length := by simp [ints]
theorem ints_set (xs : List Int) (p : Nat) (v : Int) : (ints xs).setIfInBounds p (.int .i64 v) = ints (xs.set p v) := by
  unfold ints; simp [List.map_set]
theorem ints_replicate (n : Nat) : ints (List.replicate n 0) = (List.replicate n (Value.int .i64 0)).toArray := by
  unfold ints; rw [List.map_replicate]
theorem intsAt_block {w : World} {b n : Nat} {xs : List Int} (h : w.heap[b]? = some (.cells (ints xs) 3 (0, 0))) (hn : n = xs.length) (cap : Nat) : IntsAt w (.slice (some ⟨b, 0, none⟩) n cap) xs := by
  subst hn
  exact ⟨_, cap, rfl, fun j hj => ⟨b, 0, rfl, cell_of_block h _ _ (by rw [Nat.zero_add]; exact ints_get xs j hj)⟩⟩
theorem getD_set_same {α : Type} (l : List α) (p : Nat) (v z : α) (hp : p < l.length) : (l.set p v).getD p z = v := by simp [List.getD, hp]
theorem getD_set_other {α : Type} (l : List α) (p q : Nat) (v z : α) (h : p ≠ q) : (l.set p v).getD q z = l.getD q z := by simp [List.getD, h]

/-- Is a graph right? -/
structure Rt (g : Gr) : Prop where
  ne : 0 < g.S.length
  first : g.S.getD 0 0 = 0
  last : g.S.getD (g.S.length - 1) 0 = g.T.length
  lens : g.A.length = g.T.length
  mono : ∀ i, i + 1 < g.S.length → g.S.getD i 0 ≤ g.S.getD (i + 1) 0
  tos : ∀ k, k < g.T.length → 0 ≤ g.T.getD k 0 ∧ g.T.getD k 0 + 1 < g.S.length ∧ 0 ≤ g.A.getD k 0
def rightB (g : Gr) : Bool :=
  decide (0 < g.S.length) && decide (g.S.getD 0 0 = 0) && decide (g.S.getD (g.S.length - 1) 0 = g.T.length) && decide (g.A.length = g.T.length) &&
    (List.range (g.S.length - 1)).all (fun i => decide (g.S.getD i 0 ≤ g.S.getD (i + 1) 0)) &&
    (List.range g.T.length).all (fun k => decide (0 ≤ g.T.getD k 0) && decide (g.T.getD k 0 + 1 < g.S.length) && decide (0 ≤ g.A.getD k 0))
theorem rightB_iff (g : Gr) : rightB g = true ↔ Rt g := by
  simp only [rightB, Bool.and_eq_true, decide_eq_true_eq, List.all_eq_true, List.mem_range]
  constructor
  · rintro ⟨⟨⟨⟨⟨h1, h2⟩, h3⟩, h4⟩, h5⟩, h6⟩
    exact ⟨h1, h2, h3, h4, fun i hi => h5 i (by omega), fun k hk => let ⟨⟨a, b⟩, c⟩ := h6 k hk; ⟨a, b, c⟩⟩
  · rintro ⟨h1, h2, h3, h4, h5, h6⟩
    exact ⟨⟨⟨⟨⟨h1, h2⟩, h3⟩, h4⟩, fun i hi => h5 i (by omega)⟩, fun k hk => ⟨⟨(h6 k hk).1, (h6 k hk).2.1⟩, (h6 k hk).2.2⟩⟩
theorem rightB_false {g : Gr} (h : ¬ Rt g) : rightB g = false := by
  cases e : rightB g
  · rfl
  · exact (h ((rightB_iff g).1 e)).elim
end Go.Proofs.Ytnlaonppgebpoaa
