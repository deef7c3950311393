/-
  Which nodes can be reached: no program in sight. Visiting: the plain law of a search with a stack: no program in sight. edges.Reach: its own memory; the closure that visits. edges.Reach: the walk.
-/
import Derived.Test.YtnlaonppgebpoaaBase
import Derived.Test.YtnlaonppgebpoaaRight
import Derived.Test.YtnlaonppgebpoaaRBuild
import Derived.Test.YtnlaonppgebpoaaOut
namespace Go.Proofs.Ytnlaonppgebpoaa

/-- what can be reached along edges, of some -/
inductive Rch (E : List Ed) (s : Int → Prop) : Int → Prop
  | base {i : Int} : s i → Rch E s i
  | step {e : Ed} : Rch E s e.1 → e ∈ E → Rch E s e.2.2
theorem Rch.mono {E E' : List Ed} {s s' : Int → Prop} (hE : ∀ e ∈ E, e ∈ E') (hs : ∀ i, s i → s' i) {i : Int} (h : Rch E s i) : Rch E' s' i := by
  induction h with
  | base h => exact .base (hs _ h)
  | step _ h ih => exact .step ih (hE _ h)
theorem Rch.trans {E : List Ed} {s t : Int → Prop} (h : ∀ i, s i → Rch E t i) {i : Int} (hi : Rch E s i) : Rch E t i := by
  induction hi with
  | base h' => exact h _ h'
  | step _ h' ih => exact .step ih h'
def Src (n : Nat) (fr : List Int) (i : Int) : Prop := i ∈ fr ∧ 0 ≤ i ∧ i < (n : Int)
open Classical in
noncomputable def reachL (g : Gr) (fr : List Int) : List Bool := if rightB g = true then tab (nodesN g) (fun i => decide (Rch (allL g) (Src (nodesN g) fr) (i : Int))) else []
theorem reachL_not {g : Gr} (h : rightB g = false) (fr : List Int) : reachL g fr = [] := by unfold reachL; rw [h]; rfl
theorem reachL_len {g : Gr} (h : Rt g) (fr : List Int) : (reachL g fr).length = nodesN g := by unfold reachL; rw [if_pos ((rightB_iff g).2 h), tab_len]
open Classical in
theorem reachL_get {g : Gr} (h : Rt g) (fr : List Int) {i : Nat} (hi : i < nodesN g) : (reachL g fr).getD i false = true ↔ Rch (allL g) (Src (nodesN g) fr) (i : Int) := by
  unfold reachL
  rw [if_pos ((rightB_iff g).2 h), tab_get _ _ _ _ hi, decide_eq_true_eq]
theorem Rch.range {g : Gr} (h : Rt g) {s : Int → Prop} (hs : ∀ i, s i → 0 ≤ i ∧ i < (nodesN g : Int)) {i : Int} (hr : Rch (allL g) s i) : 0 ≤ i ∧ i < (nodesN g : Int) := by
  cases hr with
  | base h' => exact hs _ h'
  | step _ h' =>
    have := allL_mem h h'
    rw [nodesN_right h]; omega
/-- A list of truths that is sound, holds the sources and is closed is the answer. -/
theorem reachL_eq {g : Gr} (h : Rt g) (fr : List Int) (out : List Bool) (hl : out.length = nodesN g)
    (hs : ∀ i, i < nodesN g → out.getD i false = true → Rch (allL g) (Src (nodesN g) fr) (i : Int))
    (hb : ∀ i : Nat, i < nodesN g → (i : Int) ∈ fr → out.getD i false = true)
    (hc : ∀ e ∈ allL g, out.getD e.1.toNat false = true → out.getD e.2.2.toNat false = true) : out = reachL g fr := by
  have key : ∀ i : Int, Rch (allL g) (Src (nodesN g) fr) i → out.getD i.toNat false = true := by
    intro i hi
    induction hi with
    | base h' =>
      obtain ⟨h1, h2, h3⟩ := h'
      rename_i i
      obtain ⟨k, rfl⟩ : ∃ k : Nat, i = (k : Int) := ⟨i.toNat, by omega⟩
      exact hb k (by omega) h1
    | step _ h' ih => exact hc _ h' ih
  apply List.ext_getElem?
  intro i
  by_cases hi : i < nodesN g
  · have h1 : i < out.length := by omega
    have h2 : i < (reachL g fr).length := by rw [reachL_len h]; exact hi
    rw [List.getElem?_eq_getElem h1, List.getElem?_eq_getElem h2]
    have e1 : out.getD i false = out[i] := by simp [List.getD, h1]
    have e2 : (reachL g fr).getD i false = (reachL g fr)[i] := by simp [List.getD, h2]
    congr 1
    rw [Bool.eq_iff_iff, ← e1, ← e2, reachL_get h fr hi]
    exact ⟨hs i hi, fun hr => key _ hr⟩
  · rw [List.getElem?_eq_none (by omega), List.getElem?_eq_none (by rw [reachL_len h]; omega)]

/-- truths as a block's cells -/
def bools (xs : List Bool) : Array Value := (xs.map (fun x : Bool => Value.bool x)).toArray
theorem bools_get (xs : List Bool) (p : Nat) (hp : p < xs.length) : (bools xs)[p]? = some (.bool (xs.getD p false)) := by
  simp [bools, List.getD, hp]
theorem bools_set (xs : List Bool) (p : Nat) (v : Bool) : (bools xs).setIfInBounds p (.bool v) = bools (xs.set p v) := by
  unfold bools; simp [List.map_set]
theorem bools_replicate (n : Nat) : bools (List.replicate n false) = (List.replicate n (Value.bool false)).toArray := by
  unfold bools; rw [List.map_replicate]
theorem boolsAt_block {w : World} {b n : Nat} {xs : List Bool} (h : w.heap[b]? = some (.cells (bools xs) 4 (0, 0))) (hn : n = xs.length) (cap : Nat) : BoolsAt w (.slice (some ⟨b, 0, none⟩) n cap) xs := by
  subst hn
  exact ⟨_, cap, rfl, fun j hj => ⟨b, 0, rfl, cell_of_block h _ _ (by rw [Nat.zero_add]; exact bools_get xs j hj)⟩⟩

/-- marked, of what was asked to be -/
theorem getD_set {α : Type} (l : List α) (p q : Nat) (v z : α) (hp : p < l.length) : (l.set p v).getD q z = if q = p then v else l.getD q z := by
  by_cases h : q = p
  · subst h; rw [if_pos rfl, getD_set_same _ _ _ _ hp]
  · rw [if_neg h, getD_set_other _ _ _ _ _ (fun e => h e.symm)]
/-- how many are not yet -/
def falses (out : List Bool) : Nat := out.countP (fun b => !b)
theorem falses_set : ∀ (out : List Bool) (p : Nat), p < out.length → out.getD p false = false → falses (out.set p true) + 1 = falses out
  | [], p, hp, _ => by simp at hp
  | b :: out, 0, _, h => by
    have : b = false := by simpa using h
    subst this
    simp [falses]
  | b :: out, p + 1, hp, h => by
    have := falses_set out p (by simpa using hp) (by simpa using h)
    simp only [falses, List.set_cons_succ, List.countP_cons] at this ⊢
    omega
theorem falses_le (out : List Bool) : falses out ≤ out.length := List.countP_le_length
end Go.Proofs.Ytnlaonppgebpoaa

namespace Go.Proofs.Ytnlaonppgebpoaa

/-- which nodes were seen, and which wait -/
abbrev VS := List Bool × List Int
def visitS (n : Nat) (s : VS) (i : Int) : VS := if 0 ≤ i ∧ i < (n : Int) ∧ s.1.getD i.toNat false = false then (s.1.set i.toNat true, s.2 ++ [i]) else s
def visitAll (n : Nat) (s : VS) (l : List Int) : VS := l.foldl (visitS n) s
theorem visitAll_snoc (n : Nat) (s : VS) (l : List Int) (i : Int) : visitAll n s (l ++ [i]) = visitS n (visitAll n s l) i := by simp [visitAll]

theorem visitS_no {n : Nat} {s : VS} {i : Int} (h : ¬ (0 ≤ i ∧ i < (n : Int) ∧ s.1.getD i.toNat false = false)) : visitS n s i = s := if_neg h
theorem visitS_yes {n : Nat} {s : VS} {i : Int} (h : 0 ≤ i ∧ i < (n : Int) ∧ s.1.getD i.toNat false = false) : visitS n s i = (s.1.set i.toNat true, s.2 ++ [i]) := if_pos h

structure VInv (g : Gr) (n : Nat) (fr : List Int) (x : Int → Prop) (s : VS) : Prop where
  len : s.1.length = n
  sound : ∀ i, i < n → s.1.getD i false = true → Rch (allL g) (Src n fr) (i : Int)
  stack : ∀ i ∈ s.2, 0 ≤ i ∧ i < (n : Int) ∧ s.1.getD i.toNat false = true
  closed : ∀ e ∈ allL g, s.1.getD e.1.toNat false = true → e.1 ∈ s.2 ∨ x e.1 ∨ s.1.getD e.2.2.toNat false = true

theorem visitS_keep {n : Nat} {s : VS} (i : Int) (hl : s.1.length = n) {j : Nat} (h : s.1.getD j false = true) : (visitS n s i).1.getD j false = true := by
  by_cases hc : 0 ≤ i ∧ i < (n : Int) ∧ s.1.getD i.toNat false = false
  · rw [visitS_yes hc]
    show (s.1.set i.toNat true).getD j false = true
    rw [getD_set _ _ _ _ _ (by omega)]
    by_cases e : j = i.toNat
    · rw [if_pos e]
    · rw [if_neg e]; exact h
  · rw [visitS_no hc]; exact h
theorem visitS_hit {n : Nat} {s : VS} {i : Int} (hl : s.1.length = n) (h0 : 0 ≤ i) (hn : i < (n : Int)) : (visitS n s i).1.getD i.toNat false = true := by
  by_cases hc : 0 ≤ i ∧ i < (n : Int) ∧ s.1.getD i.toNat false = false
  · rw [visitS_yes hc]
    show (s.1.set i.toNat true).getD i.toNat false = true
    rw [getD_set _ _ _ _ _ (by omega), if_pos rfl]
  · rw [visitS_no hc]
    cases e : s.1.getD i.toNat false
    · exact (hc ⟨h0, hn, e⟩).elim
    · rfl
theorem visitS_len {n : Nat} {s : VS} (i : Int) (hl : s.1.length = n) : (visitS n s i).1.length = n := by
  unfold visitS; split
  · simp [hl]
  · exact hl
theorem visitS_size {n : Nat} {s : VS} (i : Int) (hl : s.1.length = n) : falses (visitS n s i).1 + (visitS n s i).2.length = falses s.1 + s.2.length := by
  by_cases hc : 0 ≤ i ∧ i < (n : Int) ∧ s.1.getD i.toNat false = false
  · rw [visitS_yes hc]
    have := falses_set s.1 i.toNat (by omega) hc.2.2
    simp only [List.length_append, List.length_cons, List.length_nil]; omega
  · rw [visitS_no hc]
theorem visitS_inv {g : Gr} {n : Nat} {fr : List Int} {x : Int → Prop} {s : VS} (h : VInv g n fr x s) {i : Int} (hr : 0 ≤ i → i < (n : Int) → Rch (allL g) (Src n fr) i) : VInv g n fr x (visitS n s i) := by
  by_cases hc : 0 ≤ i ∧ i < (n : Int) ∧ s.1.getD i.toNat false = false
  · have hlt : i.toNat < s.1.length := by rw [h.len]; omega
    have hk := fun j (hj : s.1.getD j false = true) => visitS_keep (n := n) i h.len hj
    rw [visitS_yes hc] at hk ⊢
    refine ⟨by simp [h.len], ?_, ?_, ?_⟩
    · intro j hj he
      change (s.1.set i.toNat true).getD j false = true at he
      rw [getD_set _ _ _ _ _ hlt] at he
      by_cases e : j = i.toNat
      · subst e; have := hr hc.1 hc.2.1; rwa [show ((i.toNat : Nat) : Int) = i by omega]
      · rw [if_neg e] at he; exact h.sound j hj he
    · intro j hj
      rcases List.mem_append.1 hj with hj | hj
      · obtain ⟨a, b, c⟩ := h.stack j hj; exact ⟨a, b, hk _ c⟩
      · obtain rfl : j = i := by simpa using hj
        refine ⟨hc.1, hc.2.1, ?_⟩
        show (s.1.set j.toNat true).getD j.toNat false = true
        rw [getD_set _ _ _ _ _ hlt, if_pos rfl]
    · intro e he ht
      change (s.1.set i.toNat true).getD e.1.toNat false = true at ht
      rw [getD_set _ _ _ _ _ hlt] at ht
      by_cases e1 : e.1.toNat = i.toNat
      · rcases Int.lt_or_le e.1 0 with hneg | hpos
        · have h0 : rightB g = true := by
            cases hh : rightB g
            · rw [allL_not hh] at he; simp at he
            · rfl
          have := allL_mem ((rightB_iff g).1 h0) he; omega
        · left
          show e.1 ∈ s.2 ++ [i]
          rw [show e.1 = i by omega]; simp
      · rw [if_neg e1] at ht
        rcases h.closed e he ht with q | q | q
        · exact .inl (List.mem_append.2 (.inl q))
        · exact .inr (.inl q)
        · exact .inr (.inr (hk _ q))
  · rw [visitS_no hc]; exact h

theorem visitAll_inv {g : Gr} {n : Nat} {fr : List Int} {x : Int → Prop} : ∀ (l : List Int) {s : VS}, VInv g n fr x s → (∀ i ∈ l, 0 ≤ i → i < (n : Int) → Rch (allL g) (Src n fr) i) → VInv g n fr x (visitAll n s l) ∧
    falses (visitAll n s l).1 + (visitAll n s l).2.length = falses s.1 + s.2.length ∧ (∀ j, s.1.getD j false = true → (visitAll n s l).1.getD j false = true) ∧ ∀ i ∈ l, 0 ≤ i → i < (n : Int) → (visitAll n s l).1.getD i.toNat false = true
  | [], s, h, _ => ⟨h, rfl, fun _ h => h, fun i hi => by simp at hi⟩
  | a :: l, s, h, hr => by
    have h1 := visitS_inv h (i := a) (hr a (by simp))
    obtain ⟨k1, k2, k3, k4⟩ := visitAll_inv l h1 (fun i hi => hr i (by simp [hi]))
    refine ⟨k1, ?_, ?_, ?_⟩
    · have e := visitS_size (n := n) a h.len
      show falses (visitAll n (visitS n s a) l).1 + _ = _
      rw [← e]; exact k2
    · exact fun j hj => k3 j (visitS_keep a h.len hj)
    · intro i hi h0 hn
      rcases List.mem_cons.1 hi with rfl | hi
      · exact k3 _ (visitS_hit h.len h0 hn)
      · exact k4 i hi h0 hn

/-- the start: nothing seen -/
theorem vinv_start (g : Gr) (n : Nat) (fr : List Int) : VInv g n fr (fun _ => False) (List.replicate n false, []) := by
  refine ⟨by simp, ?_, by simp, ?_⟩
  · intro i hi h; simp [List.getD, hi] at h
  · intro e _ h
    exfalso
    by_cases hi : e.1.toNat < n <;> simp [List.getD, hi] at h
/-- one node taken off the stack, all its edges followed -/
theorem vinv_pop {g : Gr} (hR : Rt g) {n : Nat} (hn : n = nodesN g) {fr : List Int} {out : List Bool} {op : List Int} {i : Nat} (h : VInv g n fr (fun _ => False) (out, op ++ [(i : Int)])) :
    VInv g n fr (fun _ => False) (visitAll n (out, op) ((eds g i).map (fun e => e.2.2))) ∧ falses (visitAll n (out, op) ((eds g i).map (fun e => e.2.2))).1 + (visitAll n (out, op) ((eds g i).map (fun e => e.2.2))).2.length = falses out + op.length ∧
      (∀ j, out.getD j false = true → (visitAll n (out, op) ((eds g i).map (fun e => e.2.2))).1.getD j false = true) := by
  obtain ⟨hi0, hin, hit⟩ := h.stack i (by simp)
  have hgs : n = g.S.length - 1 := by rw [hn, nodesN_right hR]
  have h1 : VInv g n fr (fun k => k = (i : Int)) (out, op) := by
    refine ⟨h.len, h.sound, fun j hj => h.stack j (by simp [hj]), ?_⟩
    intro e he ht
    rcases h.closed e he ht with q | q | q
    · rcases List.mem_append.1 q with q | q
      · exact .inl q
      · exact .inr (.inl (by simpa using q))
    · exact q.elim
    · exact .inr (.inr q)
  have hri : Rch (allL g) (Src n fr) (i : Int) := h.sound i (by omega) (by simpa using hit)
  have hed : ∀ e ∈ eds g i, e ∈ allL g := by
    intro e he
    rw [allL_right hR, span_flat]
    exact List.mem_flatMap.2 ⟨i, by rw [List.mem_range]; omega, he⟩
  obtain ⟨k1, k2, k3, k4⟩ := visitAll_inv ((eds g i).map (fun e => e.2.2)) h1 (by
    intro t ht _ _
    obtain ⟨e, he, rfl⟩ := List.mem_map.1 ht
    refine .step ?_ (hed e he)
    rw [eds_fst he]; exact hri)
  refine ⟨⟨k1.len, k1.sound, k1.stack, ?_⟩, k2, k3⟩
  intro e he ht
  rcases k1.closed e he ht with q | q | q
  · exact .inl q
  · right; right
    have hm := allL_mem hR he
    have he' : e ∈ eds g i := by
      rw [← outs_all hR (show i + 1 < g.S.length by omega)]
      exact List.mem_filter.2 ⟨he, by simpa using q⟩
    exact k4 e.2.2 (List.mem_map.2 ⟨e, he', rfl⟩) hm.2.2.1 (by omega)
  · exact .inr (.inr q)
/-- the end: nothing waits -/
theorem vinv_end {g : Gr} (hR : Rt g) {fr : List Int} {out : List Bool} (h : VInv g (nodesN g) fr (fun _ => False) (out, [])) (hb : ∀ i ∈ fr, 0 ≤ i → i < (nodesN g : Int) → out.getD i.toNat false = true) : out = reachL g fr := by
  refine reachL_eq hR fr out h.len h.sound ?_ ?_
  · intro i hi hm
    have := hb i hm (by omega) (by omega)
    simpa using this
  · intro e he ht
    rcases h.closed e he ht with q | q | q
    · simp at q
    · exact q.elim
    · exact q
end Go.Proofs.Ytnlaonppgebpoaa

namespace Go.Proofs.Ytnlaonppgebpoaa
open Go.RowKit

/-- Reach's variables: n (block B), the row of truths, its slice (block C), the stack, the closure -/
structure ReSt (w wr : World) (gc : Array Value) (B C n : Nat) (s : VS) : Prop where
  below : Below w.heap.size w wr
  hB : w.heap.size < B
  hC : B + 1 < C
  vg : wr.heap[w.heap.size]? = some (.cells gc 26 (0, 0))
  vn : wr.heap[B]? = some (.cells #[.int .i64 (n : Nat)] 3 (0, 0))
  bo : wr.heap[B + 1]? = some (.cells (bools s.1) 4 (0, 0))
  vo : wr.heap[C]? = some (.cells #[.slice (some ⟨B + 1, 0, none⟩) n n] 33 (0, 0))
  vp : ∃ v, wr.heap[C + 1]? = some (.cells #[v] 24 (0, 0)) ∧ wr.ownsRow (C + 3) 3 1 v s.2.length (intCells s.2)
  vv : wr.heap[C + 2]? = some (.cells #[.func (.func 81) #[] #[.pointer (some ⟨B, 0, none⟩), .pointer (some ⟨C, 0, none⟩), .pointer (some ⟨C + 1, 0, none⟩)]] 78 (0, 0))
  len : s.1.length = n
  cap : falses s.1 + s.2.length ≤ n
theorem ReSt.size {w wr : World} {gc : Array Value} {B C n : Nat} {s : VS} (h : ReSt w wr gc B C n s) : C + 2 < wr.heap.size := (Array.getElem?_eq_some_iff.1 h.vv).1
theorem ReSt.drew {w wr : World} {gc : Array Value} {B C n : Nat} {s : VS} (h : ReSt w wr gc B C n s) : ReSt w wr.drew gc B C n s := ⟨h.below.drew, h.hB, h.hC, h.vg, h.vn, h.bo, h.vo, h.vp, h.vv, h.len, h.cap⟩
theorem ReSt.more {w wr w' : World} {gc : Array Value} {B C n : Nat} {s : VS} (h : ReSt w wr gc B C n s) (hb : Below wr.heap.size wr w') : ReSt w w' gc B C n s := by
  obtain ⟨v, h1, h2⟩ := h.vp
  exact ⟨h.below.trans (hb.mono h.below.size), h.hB, h.hC, bheap hb h.vg, bheap hb h.vn, bheap hb h.bo, bheap hb h.vo, ⟨v, bheap hb h1, ownsRow_frm (F := fun _ => False) h2 (bfrm hb _) (fun _ _ => id)⟩, bheap hb h.vv, h.len, h.cap⟩
theorem falses_set_le (out : List Bool) (p : Nat) : falses (out.set p true) ≤ falses out := by
  by_cases hp : p < out.length
  · cases e : out.getD p false
    · have := falses_set out p hp e; omega
    · have : out.set p true = out := by
        apply List.ext_getElem?
        intro i
        rw [List.getElem?_set]
        by_cases hi : p = i
        · subst hi; simp [hp]; simpa [List.getD, hp] using e.symm
        · simp [hi]
      rw [this]; exact Nat.le_refl _
  · rw [List.set_eq_of_length_le (by omega)]; exact Nat.le_refl _
/-- a node marked -/
theorem ReSt.mark {w wr : World} {gc : Array Value} {B C n : Nat} {s : VS} (h : ReSt w wr gc B C n s) (k : Nat) : ReSt w (wr.setCell ⟨B + 1, k, none⟩ (.bool true)) gc B C n (s.1.set k true, s.2) := by
  obtain ⟨v, h1, h2⟩ := h.vp
  have hf : Frm (fun q => q = B + 1) wr (wr.setCell ⟨B + 1, k, none⟩ (.bool true)) := (Frm.refl (fun q => q = B + 1) wr).setCell (p := ⟨B + 1, k, none⟩) (fun _ => rfl) _
  have hB := h.hB
  have hC := h.hC
  refine ⟨h.below.setCell (p := ⟨B + 1, k, none⟩) (by show w.heap.size ≤ B + 1; omega) _, h.hB, h.hC, hf.heap h.vg (by omega), hf.heap h.vn (by omega), ?_, hf.heap h.vo (by omega), ⟨v, hf.heap h1 (by omega), ?_⟩, hf.heap h.vv (by omega), by simp [h.len], ?_⟩
  · rw [heap_setCell_block h.bo, bools_set]
  · exact ownsRow_frm h2 hf (fun q hq e => by have := (h2.lt q hq).1; omega)
  · have := falses_set_le s.1 k; have := h.cap; show falses (s.1.set k true) + s.2.length ≤ n; omega
/-- a number pushed: behind the append, behind the store -/
theorem ReSt.push {w wr : World} {gc : Array Value} {B C n : Nat} {s : VS} (h : ReSt w wr gc B C n s) {v : Value} (hv : wr.heap[C + 1]? = some (.cells #[v] 24 (0, 0))) (x : Int) (m : Nat) (hm : s.2.length = m) (hc : falses s.1 + s.2.length < n) {w2 w4 : World} {g cap : Nat} (h2 : Below wr.heap.size wr w2)
    (hg : w2.grownBy w4 v.ownBlock) (hown : w4.ownsRow (C + 3) 3 1 (.slice (some ⟨g, 0, none⟩) (m + 1) cap) (m + 1) (intCells s.2 ++ [.int .i64 x])) :
    w4.cell? ⟨C + 1, 0, none⟩ = some v ∧ w4.frozen? ⟨C + 1, 0, none⟩ = false ∧ ReSt w (w4.setCell ⟨C + 1, 0, none⟩ (.slice (some ⟨g, 0, none⟩) (m + 1) cap)) gc B C n (s.1, s.2 ++ [x]) := by
  subst hm
  obtain ⟨v', h1, hr⟩ := h.vp
  obtain rfl : v' = v := by rw [hv] at h1; simpa using h1.symm
  have hsz := h.size
  have hB := h.hB
  have hC := h.hC
  have hbl : ∀ k, v'.ownBlock = some k → C + 3 ≤ k ∧ k < wr.heap.size := fun k hk => hr.lt k hk
  have hold : ∀ (k : Nat) (o : Obj), k < C + 3 → wr.heap[k]? = some o → w4.heap[k]? = some o := fun k o hk hh => by
    rw [hg.block k (by have := h2.size; omega) (fun e => by have := hbl k e.symm; omega)]; exact bheap h2 hh
  have hgb : C + 3 ≤ g := (hown.lt g rfl).1
  have k3 := hold _ _ (by omega) hv
  have hf : Frm (fun q => q = C + 1) w4 (w4.setCell ⟨C + 1, 0, none⟩ (.slice (some ⟨g, 0, none⟩) (s.2.length + 1) cap)) := (Frm.refl (fun q => q = C + 1) w4).setCell (p := ⟨C + 1, 0, none⟩) (fun _ => rfl) _
  refine ⟨cell_of_block k3 0 _ rfl, free_of_block k3 0, ?_, hB, hC, ?_, ?_, ?_, ?_, ⟨.slice (some ⟨g, 0, none⟩) (s.2.length + 1) cap, ?_, ?_⟩, ?_, h.len, by show falses s.1 + (s.2 ++ [x]).length ≤ n; simp; omega⟩
  · exact ((h.below.trans (h2.mono h.below.size)).grown hg (by have := h2.size; omega) (fun k hk => by have := hbl k hk; omega)).setCell (p := ⟨C + 1, 0, none⟩) (by show w.heap.size ≤ C + 1; omega) _
  · exact hf.heap (hold _ _ (by omega) h.vg) (by omega)
  · exact hf.heap (hold _ _ (by omega) h.vn) (by omega)
  · exact hf.heap (hold _ _ (by omega) h.bo) (by omega)
  · exact hf.heap (hold _ _ (by omega) h.vo) (by omega)
  · rw [heap_setCell_block k3]; rfl
  · have := ownsRow_frm hown hf (fun k hk e => by simp [Value.ownBlock] at hk; omega)
    simpa [intCells] using this
  · exact hf.heap (hold _ _ (by omega) h.vv) (by omega)
/-- the last one taken off -/
theorem ReSt.pop {w wr : World} {gc : Array Value} {B C n : Nat} {out : List Bool} {op : List Int} {x : Int} (h : ReSt w wr gc B C n (out, op ++ [x])) :
    ∃ g cap, wr.heap[C + 1]? = some (.cells #[.slice (some ⟨g, 0, none⟩) (op.length + 1) cap] 24 (0, 0)) ∧ C + 3 ≤ g ∧ op.length + 1 ≤ cap ∧ cap ≤ maxLen ∧ wr.cell? ⟨g, op.length, none⟩ = some (.int .i64 x) ∧
      ReSt w (wr.setCell ⟨C + 1, 0, none⟩ (.slice (some ⟨g, 0, none⟩) op.length cap)) gc B C n (out, op) := by
  obtain ⟨v, h1, hl, h2⟩ := h.vp
  have hlen : (op ++ [x]).length = op.length + 1 := by simp
  rcases h2 with ⟨-, h0⟩ | ⟨g, cap, cur, rfl, hb, hg, hn, hc, hs, ht⟩
  · simp at h0
  rw [hlen] at h1 hn ht
  have hB := h.hB
  have hC := h.hC
  have hf : Frm (fun q => q = C + 1) wr (wr.setCell ⟨C + 1, 0, none⟩ (.slice (some ⟨g, 0, none⟩) op.length cap)) := (Frm.refl (fun q => q = C + 1) wr).setCell (p := ⟨C + 1, 0, none⟩) (fun _ => rfl) _
  refine ⟨g, cap, h1, hb, by omega, hc, ?_, ?_⟩
  · refine cell_of_block hg _ _ ?_
    have e : (intCells (op ++ [x]))[op.length]? = some (.int .i64 x) := by simp [intCells]
    rw [← ht, List.getElem?_take, if_pos (by omega)] at e
    simpa using e
  · refine ⟨h.below.setCell (p := ⟨C + 1, 0, none⟩) (by show w.heap.size ≤ C + 1; omega) _, hB, hC, hf.heap h.vg (by omega), hf.heap h.vn (by omega), hf.heap h.bo (by omega), hf.heap h.vo (by omega),
      ⟨.slice (some ⟨g, 0, none⟩) op.length cap, by rw [heap_setCell_block h1]; rfl, by simp [intCells], .inr ⟨g, cap, cur, rfl, hb, hf.heap hg (by omega), by show op.length ≤ cap; omega, hc, hs, ?_⟩⟩, hf.heap h.vv (by omega), h.len, by have := h.cap; simp at this ⊢; omega⟩
    have e : (intCells (op ++ [x])).take op.length = intCells op := by simp [intCells]
    rw [← e, ← ht, List.take_take]
    congr 1
    show op.length * 1 = _
    omega

/-- graphs' variables stay -/
def Keep26 (w w' : World) : Prop := ∀ (q : Nat) (c : Array Value) (fr : Nat × Nat), w.heap[q]? = some (.cells c 26 fr) → w'.heap[q]? = some (.cells c 26 fr)
theorem Keep26.refl (w : World) : Keep26 w w := fun _ _ _ h => h
theorem Keep26.trans {a b c : World} (h : Keep26 a b) (k : Keep26 b c) : Keep26 a c := fun q x fr e => k q x fr (h q x fr e)
theorem Keep26.of_below {w w' : World} (h : Below w.heap.size w w') : Keep26 w w' := fun _ _ _ e => bheap h e
theorem Keep26.set {w : World} {b : Nat} {c : Array Value} {t : TypeId} {fr : Nat × Nat} (h : w.heap[b]? = some (.cells c t fr)) (ht : t ≠ 26) (k : Nat) (v : Value) : Keep26 w (w.setCell ⟨b, k, none⟩ v) := by
  intro q x fr' e
  rw [Below.heap_setCell _ _ _ _ (show q ≠ b from fun e2 => by subst e2; rw [h] at e; simp at e; exact ht e.2.1)]; exact e
theorem Keep26.grown {w w2 w4 : World} {base : Nat} {v : Value} {n : Nat} {xs : List Value} (hr : w.ownsRow base 3 1 v n xs) (h2 : Below w.heap.size w w2) (hg : w2.grownBy w4 v.ownBlock) : Keep26 w2 w4 := by
  intro q x fr' e
  have hq : q < w2.heap.size := (Array.getElem?_eq_some_iff.1 e).1
  rw [hg.block q hq ?_]
  · exact e
  · intro e2
    rcases hr.2 with ⟨rfl, -⟩ | ⟨g, cap, cur, rfl, -, hg', -⟩
    · simp [Value.ownBlock] at e2
    · simp [Value.ownBlock] at e2
      subst e2
      rw [bheap h2 hg'] at e
      simp at e

set_option maxRecDepth 100000 in
set_option maxHeartbeats 4000000 in
theorem visit_ok (w : World) (gc : Array Value) (B C n : Nat) (s : VS) (i : Int) (wr : World) (h : ReSt w wr gc B C n s) (hn : n ≤ 1000000) :
    Calls Try.prog 81 #[.int .i64 i, .pointer (some ⟨B, 0, none⟩), .pointer (some ⟨C, 0, none⟩), .pointer (some ⟨C + 1, 0, none⟩)] wr fun e w' => e = .returned (.tuple #[]) ∧ ReSt w w' gc B C n (visitS n s i) ∧ Keep26 wr w' := by
  obtain ⟨i0, hi0, hz0, hz1, hz2⟩ := info_parts Try.info3
  have cn := cell_of_block h.vn 0 _ rfl
  have co := cell_of_block h.vo 0 _ rfl
  have hlen := h.len
  have hC := h.hC
  by_cases h0 : i < 0
  · rw [visitS_no (by omega)]
    have H := Lib.hid h
    clear h
    go_enter Try.func81, Try.ntmps81
    go_wp2_with fail
    go_end0
    exact ⟨rfl, H.out, Keep26.refl _⟩
  by_cases h1 : (n : Int) ≤ i
  · rw [visitS_no (by omega)]
    have H := Lib.hid h
    have h2 : ¬ i < (n : Int) := by omega
    clear h
    go_enter Try.func81, Try.ntmps81
    go_wp2_with fail
    go_end0
    exact ⟨rfl, H.out, Keep26.refl _⟩
  obtain ⟨k, rfl⟩ : ∃ k : Nat, i = (k : Int) := ⟨i.toNat, by omega⟩
  have hk : k < n := by omega
  have cb := cell_of_block h.bo k _ (bools_get s.1 k (by omega))
  have fb := free_of_block h.bo k
  cases hx : s.1.getD k false
  · rw [visitS_yes ⟨by omega, by omega, by simpa using hx⟩]
    rw [hx] at cb
    have h3 := h.mark k
    have hcap := h.cap
    have hfs := falses_set s.1 k (by omega) hx
    obtain ⟨v, p1, p2⟩ := h3.vp
    have cp := cell_of_block p1 0 _ rfl
    have hsz := h.size
    obtain ⟨m, hm⟩ : ∃ m, s.2.length = m := ⟨_, rfl⟩
    have HM := Lib.hid hm
    have H3 := Lib.hid h3
    have P1 := Lib.hid p1
    have P2 : Hid ((wr.setCell ⟨B + 1, k, none⟩ (.bool true)).ownsRow (C + 3) 3 1 v m (intCells s.2)) := Lib.hid (hm ▸ p2)
    have HC : Hid (falses (s.1.set k true) + s.2.length < n) := Lib.hid (by omega)
    have hmn : m ≤ n := by omega
    have KM := Lib.hid (Keep26.set h.bo (by decide) k (.bool true))
    have K3 := Lib.hid (fun w4 (hg : ((wr.setCell ⟨B + 1, k, none⟩ (.bool true)).alloc (.cells #[.int .i64 k] 3)).grownBy w4 v.ownBlock) => show w4.heap[C + 1]? = some (.cells #[v] 24 (0, 0)) by rw [hg.block _ (by simp; omega) (fun e => by have := (p2.lt _ e.symm).1; omega)]; exact bheap (balloc _ _) p1)
    have b1 : ¬ (k : Int) < 0 := by omega
    have b2 : (k : Int) < (n : Int) := by omega
    rw [show (k : Int).toNat = k from by simp]
    clear h h3 p1 p2 hx hlen hm hcap hfs
    go_enter Try.func81, Try.ntmps81
    go_wp2_with (at_builtin; refine wpList_append_lies ((wr.setCell ⟨B + 1, k, none⟩ (.bool true)).alloc (.cells #[.int .i64 k] 3)) rfl (.tmp 22) (.tmp 24) 24 rfl (C + 3) 3 i0 (.int .i64 0) 1 8 Try.underlying24 hi0 hz0 hz1 hz2 rfl (by decide) v m (intCells s.2) rfl (P2.out.alloc _) ⟨wr.heap.size, 0, none⟩ 1 1 [.int .i64 k] rfl rfl (World.news_of_block (heap_alloc_at _ _ _ (by simp))) (by simp [Value.oneCell']) (by omega) (by unfold maxLen; omega) (by omega) (by simp; omega) (wr.heap.size + 1) (by simp) ?_; intro g2 cap2 w4 hown2 hgr2 hor2 hlt2; obtain ⟨q0, q1, q2⟩ := H3.out.push P1.out k m HM.out HC.out (balloc _ (.cells #[.int .i64 k] 3)) hgr2 hown2; have Q := Lib.hid q2; have K := Lib.hid (((KM.out.trans (Keep26.of_below (balloc _ (.cells #[.int .i64 k] 3)))).trans (Keep26.grown P2.out (balloc _ (.cells #[.int .i64 k] 3)) hgr2)).trans (Keep26.set (K3.out w4 hgr2) (by decide) 0 (.slice (some ⟨g2, 0, none⟩) (m + 1) cap2))); clear q2 hgr2 hown2)
    go_end0
    exact ⟨rfl, Q.out, K.out⟩
  · rw [visitS_no (fun ⟨_, _, q⟩ => by rw [show (k : Int).toNat = k from by simp, hx] at q; cases q)]
    rw [hx] at cb
    have H := Lib.hid h
    have b1 : ¬ (k : Int) < 0 := by omega
    have b2 : (k : Int) < (n : Int) := by omega
    clear h hx
    go_enter Try.func81, Try.ntmps81
    go_wp2_with fail
    go_end0
    exact ⟨rfl, H.out, Keep26.refl _⟩
end Go.Proofs.Ytnlaonppgebpoaa

namespace Go.Proofs.Ytnlaonppgebpoaa
open Go.RowKit
theorem Try.info4 : (Try.prog.info? 4).map (fun i => (i.zero, i.size, i.bytes)) = some (some (.bool false), 1, 1) := by kernel_rfl

set_option maxRecDepth 100000 in
set_option maxHeartbeats 4000000 in
theorem reach2_ok (w : World) (gc : Array Value) (B C n : Nat) (s : VS) (e : Ed) (wr : World) (h : ReSt w wr gc B C n s) (hn : n ≤ 1000000) :
    Calls Try.prog 82 #[.agg #[.int .i64 e.1, .int .i64 e.2.1, .int .i64 e.2.2], .pointer (some ⟨C + 2, 0, none⟩)] wr fun e' w' => e' = .returned (.tuple #[]) ∧ ReSt w w' gc B C n (visitS n s e.2.2) ∧ Keep26 wr w' := by
  obtain ⟨x, y, z⟩ := e
  have hE' : ∀ (args : Array Value) (w : World), (callFunc 81 args).run Try.prog w = .ok (.enter 81 args) w := enters_of Try.func81 (by kernel_rfl) rfl
  have h1 := h.more (balloc wr (.cells #[.int .i64 x, .int .i64 y, .int .i64 z] 44))
  have HV := Lib.hid (visit_ok w gc B C n s z _ h1 hn)
  have cv := cell_of_block h1.vv 0 _ rfl
  show Calls Try.prog 82 _ wr fun e' w' => e' = .returned (.tuple #[]) ∧ ReSt w w' gc B C n (visitS n s z) ∧ Keep26 wr w'
  clear h h1
  go_enter Try.func82, Try.ntmps82
  go_wp2_with (go_at_fn 81; refine HV.out.mono ?_; rintro e' w' ⟨rfl, hR, hK⟩)
  go_end0
  exact ⟨rfl, hR, (Keep26.of_below (balloc wr _)).trans hK⟩

/-- a list of truths, as a call hands it back -/
def BoolsBack (w : World) (l : List Bool) (e : Ending) (w' : World) : Prop := ∃ v, e = .returned v ∧ BoolsAt w' v l ∧ Below w.heap.size w w'

theorem rest_intro {w w2 w3 : World} {gc : Array Value} {n : Nat} (hb : Below w.heap.size w w2) (hlt : w.heap.size < w2.heap.size) (hg : w2.heap[w.heap.size]? = some (.cells gc 26 (0, 0)))
    (hb3 : Below (w2.alloc (.cells #[.int .i64 (n : Nat)] 3)).heap.size (w2.alloc (.cells #[.int .i64 (n : Nat)] 3)) w3) (hh3 : w3.heap[(w2.alloc (.cells #[.int .i64 (n : Nat)] 3)).heap.size]? = some (.cells (List.replicate n (Value.bool false)).toArray 4 (0, 0))) :
    ReSt w (((w3.alloc (.cells #[.slice (some ⟨w2.heap.size + 1, 0, none⟩) n n] 33)).alloc (.cells #[.slice none 0 0] 24)).alloc (.cells #[.func (.func 81) #[] #[.pointer (some ⟨w2.heap.size, 0, none⟩), .pointer (some ⟨w3.heap.size, 0, none⟩), .pointer (some ⟨w3.heap.size + 1, 0, none⟩)]] 78))
      gc w2.heap.size w3.heap.size n (List.replicate n false, []) := by
  have h0 := balloc w2 (.cells #[.int .i64 (n : Nat)] 3)
  have h4 := balloc w3 (.cells #[.slice (some ⟨w2.heap.size + 1, 0, none⟩) n n] 33)
  have h5 := balloc (w3.alloc (.cells #[.slice (some ⟨w2.heap.size + 1, 0, none⟩) n n] 33)) (.cells #[.slice none 0 0] 24)
  have h6 := balloc ((w3.alloc (.cells #[.slice (some ⟨w2.heap.size + 1, 0, none⟩) n n] 33)).alloc (.cells #[.slice none 0 0] 24)) (.cells #[.func (.func 81) #[] #[.pointer (some ⟨w2.heap.size, 0, none⟩), .pointer (some ⟨w3.heap.size, 0, none⟩), .pointer (some ⟨w3.heap.size + 1, 0, none⟩)]] 78)
  have hlt3 := (Array.getElem?_eq_some_iff.1 hh3).1
  rw [World.size_alloc] at hh3 hlt3
  have ha : Below w.heap.size w (w2.alloc (.cells #[.int .i64 (n : Nat)] 3)) := hb.trans (h0.mono hb.size)
  have hw3 : Below w.heap.size w w3 := ha.trans (hb3.mono ha.size)
  refine ⟨((hw3.trans (h4.mono hw3.size)).trans (h5.mono (hw3.trans (h4.mono hw3.size)).size)).trans (h6.mono ((hw3.trans (h4.mono hw3.size)).trans (h5.mono (hw3.trans (h4.mono hw3.size)).size)).size), hlt, by omega, ?_, ?_, ?_, ?_, ⟨.slice none 0 0, ?_, ⟨rfl, .inl ⟨rfl, rfl⟩⟩⟩, ?_, by simp, ?_⟩
  · exact bheap h6 (bheap h5 (bheap h4 (bheap hb3 (bheap h0 hg))))
  · exact bheap h6 (bheap h5 (bheap h4 (bheap hb3 (heap_alloc_new w2 _))))
  · rw [bools_replicate]; exact bheap h6 (bheap h5 (bheap h4 hh3))
  · exact bheap h6 (bheap h5 (heap_alloc_new w3 _))
  · exact bheap h6 (heap_alloc_at _ _ _ (by simp))
  · exact heap_alloc_at _ _ _ (by simp)
  · have := falses_le (List.replicate n false); simp at this ⊢; omega
theorem visitAll_take (n : Nat) (s : VS) (l : List Int) (k : Nat) (hk : k < l.length) : visitAll n s (l.take (k + 1)) = visitS n (visitAll n s (l.take k)) (l.getD k 0) := by
  rw [List.take_add_one, List.getElem?_eq_getElem hk, Option.toList_some, visitAll_snoc]
  simp [List.getD, hk]

theorem each_reach {g : Gr} {v : Value} {w w2 : World} {gc : Array Value} {B C n : Nat} {s : VS} (hg : GraphAt w v g) (hR : Rt g) (h : ReSt w w2 gc B C n s) (hn : n ≤ 1000000) (i : Nat) (b : Int) (hb : b = (i : Int) + 1) (hi : i + 1 < g.S.length) :
    Calls Try.prog 73 #[v, .int .i64 (i : Nat), .int .i64 b, .func (.func 82) #[] #[.pointer (some ⟨C + 2, 0, none⟩)]] w2 fun e w' => e = .returned (.tuple #[]) ∧ ReSt w w' gc B C n (visitAll n s ((eds g i).map (fun e => e.2.2))) := by
  have h4 := hg.sS
  have h6 := hg.sT
  have hE : Enters Try.prog 82 := enters_of Try.func82 (by kernel_rfl) rfl
  obtain ⟨sa, aa, ta, sc, ac, tc, rfl, -⟩ := hg.var
  have hbx := balloc w2 (.cells #[.slice sa g.S.length sc, .slice aa g.A.length ac, .slice ta g.T.length tc] 26)
  have e0 : eds g i = span g i 1 := (span_one g i).symm
  rw [e0]
  have key := each_ok (sa := sa) (aa := aa) (ta := ta) (sc := sc) (ac := ac) (tc := tc) (w := w2) hR h4 h6 82 hE #[.pointer (some ⟨C + 2, 0, none⟩)] i 1 b (by simpa using hb) (by omega)
    (fun pre w' => ReSt w w' gc B C n (visitAll n s (pre.map (fun e => e.2.2))) ∧ Keep26 (w2.alloc (.cells #[.slice sa g.S.length sc, .slice aa g.A.length ac, .slice ta g.T.length tc] 26)) w') ?_ ?_ ?_ ?_
  · refine key.mono ?_
    rintro e w' ⟨rfl, h, -⟩
    exact ⟨rfl, h⟩
  · rintro pre w' ⟨h, hk⟩
    exact gvar_of hg h.below (hk _ _ _ (heap_alloc_new w2 _))
  · exact ⟨h.more hbx, Keep26.refl _⟩
  · exact fun pre w' h => ⟨h.1.drew, h.2⟩
  · rintro pre j k w' ⟨h, hk⟩ _ _ _ _ _
    refine (reach2_ok w gc B C n _ (edge g j k) w' h hn).mono ?_
    rintro e w'' ⟨rfl, h', hk'⟩
    refine ⟨rfl, ?_, hk.trans hk'⟩
    rw [List.map_append, List.map_cons, List.map_nil, visitAll_snoc]
    exact h'
end Go.Proofs.Ytnlaonppgebpoaa
