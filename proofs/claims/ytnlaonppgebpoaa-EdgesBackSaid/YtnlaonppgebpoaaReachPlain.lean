/-
  Which nodes can be reached: no program in sight.
-/
import Derived.Test.YtnlaonppgebpoaaGraph
import Derived.Test.YtnlaonppgebpoaaRight
namespace Go.Proofs.Ytnlaonppgebpoaa

/-- what can be reached along edges, of some -/
inductive Rch (E : List Ed) (s : Int → Prop) : Int → Prop
  | base {i : Int} : s i → Rch E s i
  | step {e : Ed} : Rch E s e.1 → e ∈ E → Rch E s e.2.2
theorem Rch.mono {E E' : List Ed} {s s' : Int → Prop} (hE : ∀ e ∈ E, e ∈ E') (hs : ∀ i, s i → s' i) {i : Int} (h : Rch E s i) : Rch E' s' i := by
  induction h with
  | base h => exact .base (hs _ h)
  | step _ h ih => exact .step ih (hE _ h)
theorem Rch.trans {E : List Ed} {s t : Int → Prop} (h : ∀ i, s i → Rch E t i) {i : Int} (hi : Rch E s i) : Rch E t i := by
  induction hi with
  | base h' => exact h _ h'
  | step _ h' ih => exact .step ih h'
def Src (n : Nat) (fr : List Int) (i : Int) : Prop := i ∈ fr ∧ 0 ≤ i ∧ i < (n : Int)
open Classical in
noncomputable def reachL (g : Gr) (fr : List Int) : List Bool := if rightB g = true then tab (nodesN g) (fun i => decide (Rch (allL g) (Src (nodesN g) fr) (i : Int))) else []
theorem reachL_not {g : Gr} (h : rightB g = false) (fr : List Int) : reachL g fr = [] := by unfold reachL; rw [h]; rfl
theorem reachL_len {g : Gr} (h : Rt g) (fr : List Int) : (reachL g fr).length = nodesN g := by unfold reachL; rw [if_pos ((rightB_iff g).2 h), tab_len]
open Classical in
theorem reachL_get {g : Gr} (h : Rt g) (fr : List Int) {i : Nat} (hi : i < nodesN g) : (reachL g fr).getD i false = true ↔ Rch (allL g) (Src (nodesN g) fr) (i : Int) := by
  unfold reachL
  rw [if_pos ((rightB_iff g).2 h), tab_get _ _ _ _ hi, decide_eq_true_eq]
theorem Rch.range {g : Gr} (h : Rt g) {s : Int → Prop} (hs : ∀ i, s i → 0 ≤ i ∧ i < (nodesN g : Int)) {i : Int} (hr : Rch (allL g) s i) : 0 ≤ i ∧ i < (nodesN g : Int) := by
  cases hr with
  | base h' => exact hs _ h'
  | step _ h' =>
    have := allL_mem h h'
    rw [nodesN_right h]; omega
/-- A list of truths that is sound, holds the sources and is closed is the answer. -/
theorem reachL_eq {g : Gr} (h : Rt g) (fr : List Int) (out : List Bool) (hl : out.length = nodesN g)
    (hs : ∀ i, i < nodesN g → out.getD i false = true → Rch (allL g) (Src (nodesN g) fr) (i : Int))
    (hb : ∀ i : Nat, i < nodesN g → (i : Int) ∈ fr → out.getD i false = true)
    (hc : ∀ e ∈ allL g, out.getD e.1.toNat false = true → out.getD e.2.2.toNat false = true) : out = reachL g fr := by
  have key : ∀ i : Int, Rch (allL g) (Src (nodesN g) fr) i → out.getD i.toNat false = true := by
    intro i hi
    induction hi with
    | base h' =>
      obtain ⟨h1, h2, h3⟩ := h'
      rename_i i
      obtain ⟨k, rfl⟩ : ∃ k : Nat, i = (k : Int) := ⟨i.toNat, by omega⟩
      exact hb k (by omega) h1
    | step _ h' ih => exact hc _ h' ih
  apply List.ext_getElem?
  intro i
  by_cases hi : i < nodesN g
  · have h1 : i < out.length := by omega
    have h2 : i < (reachL g fr).length := by rw [reachL_len h]; exact hi
    rw [List.getElem?_eq_getElem h1, List.getElem?_eq_getElem h2]
    have e1 : out.getD i false = out[i] := by simp [List.getD, h1]
    have e2 : (reachL g fr).getD i false = (reachL g fr)[i] := by simp [List.getD, h2]
    congr 1
    rw [Bool.eq_iff_iff, ← e1, ← e2, reachL_get h fr hi]
    exact ⟨hs i hi, fun hr => key _ hr⟩
  · rw [List.getElem?_eq_none (by omega), List.getElem?_eq_none (by rw [reachL_len h]; omega)]

/-- truths as a block's cells -/
def bools (xs : List Bool) : Array Value := (xs.map (fun x : Bool => Value.bool x)).toArray
theorem bools_get (xs : List Bool) (p : Nat) (hp : p < xs.length) : (bools xs)[p]? = some (.bool (xs.getD p false)) := by
  simp [bools, List.getD, hp]
theorem bools_set (xs : List Bool) (p : Nat) (v : Bool) : (bools xs).setIfInBounds p (.bool v) = bools (xs.set p v) := by
  unfold bools; simp [List.map_set]
theorem bools_replicate (n : Nat) : bools (List.replicate n false) = (List.replicate n (Value.bool false)).toArray := by
  unfold bools; rw [List.map_replicate]
theorem boolsAt_block {w : World} {b n : Nat} {xs : List Bool} (h : w.heap[b]? = some (.cells (bools xs) 4 (0, 0))) (hn : n = xs.length) (cap : Nat) : BoolsAt w (.slice (some ⟨b, 0, none⟩) n cap) xs := by
  subst hn
  exact ⟨_, cap, rfl, fun j hj => ⟨b, 0, rfl, cell_of_block h _ _ (by rw [Nat.zero_add]; exact bools_get xs j hj)⟩⟩

/-- marked, of what was asked to be -/
theorem getD_set {α : Type} (l : List α) (p q : Nat) (v z : α) (hp : p < l.length) : (l.set p v).getD q z = if q = p then v else l.getD q z := by
  by_cases h : q = p
  · subst h; rw [if_pos rfl, getD_set_same _ _ _ _ hp]
  · rw [if_neg h, getD_set_other _ _ _ _ _ (fun e => h e.symm)]
/-- how many are not yet -/
def falses (out : List Bool) : Nat := out.countP (fun b => !b)
theorem falses_set : ∀ (out : List Bool) (p : Nat), p < out.length → out.getD p false = false → falses (out.set p true) + 1 = falses out
  | [], p, hp, _ => by simp at hp
  | b :: out, 0, _, h => by
    have : b = false := by simpa using h
    subst this
    simp [falses]
  | b :: out, p + 1, hp, h => by
    have := falses_set out p (by simpa using hp) (by simpa using h)
    simp only [falses, List.set_cons_succ, List.countP_cons] at this ⊢
    omega
theorem falses_le (out : List Bool) : falses out ≤ out.length := List.countP_le_length
end Go.Proofs.Ytnlaonppgebpoaa
