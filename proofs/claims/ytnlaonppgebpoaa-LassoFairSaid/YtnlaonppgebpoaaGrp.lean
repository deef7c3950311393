/-
  Numbers by first occurrence, and the rows of equal numbers: plain. The rows of equal numbers, in the order of their first ones: plain.
-/
import Derived.Test.YtnlaonppgebpoaaBase
namespace Go.Proofs.Ytnlaonppgebpoaa

/-- one step: the number of the first earlier one that is alike, else a new number -/
def cnStep (E : Nat → Nat → Bool) (i : Nat) (s : List Nat × Nat) : List Nat × Nat :=
  match (List.range i).find? (fun k => E i k) with
  | some k => (s.1 ++ [s.1.getD k 0], s.2)
  | none => (s.1 ++ [s.2], s.2 + 1)
def cnS (E : Nat → Nat → Bool) : Nat → List Nat × Nat
  | 0 => ([], 0)
  | i + 1 => cnStep E i (cnS E i)
theorem find_congr {α : Type} {p q : α → Bool} : ∀ l : List α, (∀ x ∈ l, p x = q x) → l.find? p = l.find? q
  | [], _ => rfl
  | x :: l, h => by
    rw [List.find?_cons, List.find?_cons, h x (by simp), find_congr l (fun y hy => h y (by simp [hy]))]
theorem cnS_congr {E E' : Nat → Nat → Bool} : ∀ n, (∀ i k, i < n → k < i → E i k = E' i k) → cnS E n = cnS E' n
  | 0, _ => rfl
  | n + 1, h => by
    show cnStep E n (cnS E n) = cnStep E' n (cnS E' n)
    rw [cnS_congr n (fun i k hi hk => h i k (by omega) hk)]
    unfold cnStep
    rw [find_congr (List.range n) (fun k hk => h n k (by omega) (List.mem_range.1 hk))]
theorem cnS_len (E : Nat → Nat → Bool) : ∀ n, (cnS E n).1.length = n
  | 0 => rfl
  | n + 1 => by
    show (cnStep E n (cnS E n)).1.length = _
    unfold cnStep
    split <;> simp [cnS_len E n]
/-- the number of i -/
def cnV (E : Nat → Nat → Bool) (i : Nat) : Nat := (cnS E (i + 1)).1.getD i 0
theorem cnS_getD (E : Nat → Nat → Bool) : ∀ n k, k < n → (cnS E n).1.getD k 0 = cnV E k
  | 0, k, h => by omega
  | n + 1, k, h => by
    by_cases e : k = n
    · rw [e]; rfl
    · have hk : k < n := by omega
      rw [← cnS_getD E n k hk]
      show (cnStep E n (cnS E n)).1.getD k 0 = _
      have hl := cnS_len E n
      have : ∀ x, ((cnS E n).1 ++ [x]).getD k 0 = (cnS E n).1.getD k 0 := fun x => by
        simp only [List.getD_eq_getElem?_getD]
        rw [List.getElem?_append_left (by omega)]
      unfold cnStep
      split <;> exact this _
theorem cnV_some {E : Nat → Nat → Bool} {i k : Nat} (h : (List.range i).find? (fun k => E i k) = some k) : cnV E i = cnV E k := by
  have hk : k < i := List.mem_range.1 (List.mem_of_find?_eq_some h)
  show (cnStep E i (cnS E i)).1.getD i 0 = _
  unfold cnStep
  rw [h]
  have hl := cnS_len E i
  simp only [List.getD_eq_getElem?_getD]
  rw [List.getElem?_append_right (by omega), hl]
  simp
  rw [← List.getD_eq_getElem?_getD]
  exact cnS_getD E i k hk
theorem cnV_none {E : Nat → Nat → Bool} {i : Nat} (h : (List.range i).find? (fun k => E i k) = none) : cnV E i = (cnS E i).2 := by
  show (cnStep E i (cnS E i)).1.getD i 0 = _
  unfold cnStep
  rw [h]
  have hl := cnS_len E i
  simp only [List.getD_eq_getElem?_getD]
  rw [List.getElem?_append_right (by omega), hl]
  simp
theorem cnS_next_some {E : Nat → Nat → Bool} {i k : Nat} (h : (List.range i).find? (fun k => E i k) = some k) : (cnS E (i + 1)).2 = (cnS E i).2 := by
  show (cnStep E i (cnS E i)).2 = _
  unfold cnStep; rw [h]
theorem cnS_next_none {E : Nat → Nat → Bool} {i : Nat} (h : (List.range i).find? (fun k => E i k) = none) : (cnS E (i + 1)).2 = (cnS E i).2 + 1 := by
  show (cnStep E i (cnS E i)).2 = _
  unfold cnStep; rw [h]
theorem cnV_lt (E : Nat → Nat → Bool) : ∀ n i, i < n → cnV E i < (cnS E n).2
  | 0, _, h => by omega
  | n + 1, i, h => by
    rcases e : (List.range n).find? (fun k => E n k) with _ | k
    · rw [cnS_next_none e]
      by_cases q : i = n
      · rw [q, cnV_none e]; omega
      · have := cnV_lt E n i (by omega); omega
    · rw [cnS_next_some e]
      by_cases q : i = n
      · rw [q, cnV_some e]
        exact cnV_lt E n k (List.mem_range.1 (List.mem_of_find?_eq_some e))
      · exact cnV_lt E n i (by omega)
theorem cnS_next_le (E : Nat → Nat → Bool) : ∀ n, (cnS E n).2 ≤ n
  | 0 => Nat.le_refl _
  | n + 1 => by
    rcases e : (List.range n).find? (fun k => E n k) with _ | k
    · rw [cnS_next_none e]; have := cnS_next_le E n; omega
    · rw [cnS_next_some e]; have := cnS_next_le E n; omega
theorem cnS_next_mono (E : Nat → Nat → Bool) {n m : Nat} (h : n ≤ m) : (cnS E n).2 ≤ (cnS E m).2 := by
  induction m with
  | zero => obtain rfl : n = 0 := by omega
            exact Nat.le_refl _
  | succ m ih =>
    by_cases e : n = m + 1
    · rw [e]; exact Nat.le_refl _
    · refine Nat.le_trans (ih (by omega)) ?_
      rcases e : (List.range m).find? (fun k => E m k) with _ | k
      · rw [cnS_next_none e]; omega
      · rw [cnS_next_some e]; exact Nat.le_refl _
/-- alike by their values -/
def eqB {α : Type} [DecidableEq α] (f : Nat → α) (i k : Nat) : Bool := decide (f i = f k)
section
variable {α : Type} [DecidableEq α] {f : Nat → α}
theorem eqB_none {i : Nat} : (List.range i).find? (fun k => eqB f i k) = none ↔ ∀ k, k < i → f i ≠ f k := by
  simp [eqB, List.find?_eq_none]
theorem eqB_some {i k : Nat} (h : (List.range i).find? (fun k => eqB f i k) = some k) : k < i ∧ f i = f k :=
  ⟨List.mem_range.1 (List.mem_of_find?_eq_some h), by have := List.find?_some h; simpa [eqB] using this⟩
theorem cnV_eq : ∀ n i k, i < n → k < n → (cnV (eqB f) i = cnV (eqB f) k ↔ f i = f k)
  | 0, _, _, h, _ => by omega
  | n + 1, i, k, hi, hk => by
    have key : ∀ k, k < n → (cnV (eqB f) n = cnV (eqB f) k ↔ f n = f k) := fun k hk => by
      rcases e : (List.range n).find? (fun k => eqB f n k) with _ | j
      · have h1 := cnV_lt (eqB f) n k hk
        rw [cnV_none e]
        constructor
        · intro q; omega
        · intro q; exact absurd q (eqB_none.1 e k hk)
      · rw [cnV_some e, cnV_eq n j k (eqB_some e).1 hk, (eqB_some e).2]
    by_cases e1 : i = n
    · by_cases e2 : k = n
      · rw [e1, e2]; simp
      · rw [e1]; exact key k (by omega)
    · by_cases e2 : k = n
      · rw [e2]
        have := key i (by omega)
        constructor
        · intro q; exact (this.1 q.symm).symm
        · intro q; exact (this.2 q.symm).symm
      · exact cnV_eq n i k (by omega) (by omega)
/-- a first one's number is above all before it -/
theorem cnV_first {i k : Nat} (hi : ∀ j, j < i → f i ≠ f j) (hk : k < i) : cnV (eqB f) k < cnV (eqB f) i := by
  rw [cnV_none (eqB_none.2 hi)]
  exact cnV_lt _ i k hk
end
end Go.Proofs.Ytnlaonppgebpoaa

namespace Go.Proofs.Ytnlaonppgebpoaa

theorem sorted_ext : ∀ {l l' : List Nat}, l.Pairwise (· < ·) → l'.Pairwise (· < ·) → (∀ x, x ∈ l ↔ x ∈ l') → l = l'
  | [], [], _, _, _ => rfl
  | [], y :: l', _, _, h => by have := (h y).2 (by simp); cases this
  | x :: l, [], _, _, h => by have := (h x).1 (by simp); cases this
  | x :: l, y :: l', h1, h2, h => by
    have a1 := List.pairwise_cons.1 h1
    have a2 := List.pairwise_cons.1 h2
    have e : x = y := by
      have m1 := (h x).1 (by simp)
      have m2 := (h y).2 (by simp)
      rcases List.mem_cons.1 m1 with e | m1
      · exact e
      · rcases List.mem_cons.1 m2 with e | m2
        · exact e.symm
        · have := a1.1 y m2
          have := a2.1 x m1
          omega
    subst e
    congr 1
    refine sorted_ext a1.2 a2.2 fun z => ?_
    have hz := h z
    simp only [List.mem_cons] at hz
    constructor
    · intro m
      rcases hz.1 (.inr m) with e | m'
      · have := a1.1 z m; omega
      · exact m'
    · intro m
      rcases hz.2 (.inr m) with e | m'
      · have := a2.1 z m; omega
      · exact m'

section
variable {α : Type} [DecidableEq α]
/-- i is the first one that is in of its number -/
def isF (q : Nat → α) (inn : Nat → Bool) (i : Nat) : Bool := inn i && (List.range i).all (fun k => !(inn k && decide (q k = q i)))
def firsts (q : Nat → α) (inn : Nat → Bool) (n : Nat) : List Nat := (List.range n).filter (isF q inn)
def rowOf (q : Nat → α) (inn : Nat → Bool) (n : Nat) (p : α) : List Nat := (List.range n).filter (fun k => inn k && decide (q k = p))
def grp (q : Nat → α) (inn : Nat → Bool) (n : Nat) : List (List Nat) := (firsts q inn n).map (fun j => rowOf q inn n (q j))
/-- where a number's row lies -/
def place (q : Nat → α) (inn : Nat → Bool) (n : Nat) (p : α) : Option Nat := (firsts q inn n).findIdx? (fun j => decide (q j = p))

variable {q : Nat → α} {inn : Nat → Bool}
theorem isF_iff {i : Nat} : isF q inn i = true ↔ inn i = true ∧ ∀ k, k < i → inn k = true → q k ≠ q i := by
  simp only [isF, Bool.and_eq_true, List.all_eq_true, List.mem_range, Bool.not_eq_true', Bool.and_eq_false_iff, decide_eq_false_iff_not]
  constructor
  · rintro ⟨h1, h2⟩
    refine ⟨h1, fun k hk hi => ?_⟩
    rcases h2 k hk with e | e
    · rw [hi] at e; cases e
    · exact e
  · rintro ⟨h1, h2⟩
    refine ⟨h1, fun k hk => ?_⟩
    cases e : inn k
    · exact .inl rfl
    · exact .inr (h2 k hk e)
theorem firsts_succ (n : Nat) : firsts q inn (n + 1) = firsts q inn n ++ if isF q inn n then [n] else [] := by
  unfold firsts
  rw [List.range_succ, List.filter_append]
  congr 1
  simp only [List.filter_cons, List.filter_nil]
theorem rowOf_succ (n : Nat) (p : α) : rowOf q inn (n + 1) p = rowOf q inn n p ++ if inn n && decide (q n = p) then [n] else [] := by
  unfold rowOf
  rw [List.range_succ, List.filter_append]
  congr 1
  simp only [List.filter_cons, List.filter_nil]
theorem mem_firsts {n i : Nat} : i ∈ firsts q inn n ↔ i < n ∧ isF q inn i = true := by
  simp [firsts]
theorem mem_rowOf {n i : Nat} {p : α} : i ∈ rowOf q inn n p ↔ i < n ∧ inn i = true ∧ q i = p := by
  simp [rowOf]
/-- each that is in has a first one -/
theorem has_first : ∀ (m n i : Nat), i < m → i < n → inn i = true → ∃ j, j ∈ firsts q inn n ∧ q j = q i ∧ j ≤ i
  | 0, _, _, h, _, _ => by omega
  | m + 1, n, i, hm, hn, hi => by
    by_cases hf : isF q inn i = true
    · exact ⟨i, mem_firsts.2 ⟨hn, hf⟩, rfl, Nat.le_refl _⟩
    · have : ∃ k, k < i ∧ inn k = true ∧ q k = q i := by
        refine Classical.byContradiction fun hne => hf (isF_iff.2 ⟨hi, fun k hk hik e => hne ⟨k, hk, hik, e⟩⟩)
      obtain ⟨k, hk, hik, e⟩ := this
      obtain ⟨j, h1, h2, h3⟩ := has_first m n k (by omega) (by omega) hik
      exact ⟨j, h1, by rw [h2, e], by omega⟩
/-- step: one that is not in -/
theorem grp_out {n : Nat} (h : inn n = false) : grp q inn (n + 1) = grp q inn n ∧ ∀ p, place q inn (n + 1) p = place q inn n p := by
  have hf : isF q inn n = false := by simp [isF, h]
  have e : firsts q inn (n + 1) = firsts q inn n := by rw [firsts_succ, hf]; simp
  have e2 : ∀ p, rowOf q inn (n + 1) p = rowOf q inn n p := fun p => by rw [rowOf_succ, h]; simp
  constructor
  · unfold grp
    rw [e]
    exact List.map_congr_left fun j _ => e2 _
  · intro p; unfold place; rw [e]
theorem place_lt {n at' : Nat} {p : α} (h : place q inn n p = some at') : at' < (firsts q inn n).length ∧ ∃ j, (firsts q inn n)[at']? = some j ∧ q j = p := by
  unfold place at h
  rw [List.findIdx?_eq_some_iff_getElem] at h
  obtain ⟨hl, h1, -⟩ := h
  exact ⟨hl, _, List.getElem?_eq_getElem hl, by simpa using h1⟩
/-- step: a first one -/
theorem grp_first {n : Nat} (h : inn n = true) (hp : place q inn n (q n) = none) :
    grp q inn (n + 1) = grp q inn n ++ [[n]] ∧ ∀ p, place q inn (n + 1) p = if p = q n then some (grp q inn n).length else place q inn n p := by
  have hno : ∀ k, k < n → inn k = true → q k ≠ q n := fun k hk hi e => by
    obtain ⟨j, h1, h2, -⟩ := has_first (q := q) (k + 1) n k (by omega) hk hi
    have := List.findIdx?_eq_none_iff.1 hp j h1
    rw [h2, e] at this
    simp at this
  have hf : isF q inn n = true := isF_iff.2 ⟨h, hno⟩
  have e : firsts q inn (n + 1) = firsts q inn n ++ [n] := by rw [firsts_succ, hf]; simp
  constructor
  · unfold grp
    rw [e, List.map_append, List.map_singleton]
    congr 1
    · refine List.map_congr_left fun j hj => ?_
      rw [rowOf_succ]
      have hj' := mem_firsts.1 hj
      have : q n ≠ q j := fun e => hno j hj'.1 (isF_iff.1 hj'.2).1 e.symm
      simp [this]
    · rw [rowOf_succ]
      have : rowOf q inn n (q n) = [] := by
        refine List.eq_nil_iff_forall_not_mem.2 fun k hk => ?_
        obtain ⟨h1, h2, h3⟩ := mem_rowOf.1 hk
        exact hno k h1 h2 h3
      rw [this]; simp [h]
  · intro p
    have hl : (grp q inn n).length = (firsts q inn n).length := by simp [grp]
    unfold place
    rw [e, List.findIdx?_append, hl]
    by_cases hpe : p = q n
    · subst hpe
      rw [if_pos rfl]
      unfold place at hp
      rw [hp]
      simp [List.findIdx?_cons]
    · rw [if_neg hpe]
      have : ¬ q n = p := fun e => hpe e.symm
      simp [List.findIdx?_cons, this]
theorem getElem?_inj_firsts {n a b : Nat} {j k : Nat} (h1 : (firsts q inn n)[a]? = some j) (h2 : (firsts q inn n)[b]? = some k) (e : q j = q k) : a = b := by
  have hs : (firsts q inn n).Pairwise (· < ·) := by unfold firsts; exact List.pairwise_lt_range.filter _
  have m1 := mem_firsts.1 (List.mem_of_getElem? h1)
  have m2 := mem_firsts.1 (List.mem_of_getElem? h2)
  have ejk : j = k := by
    rcases Nat.lt_trichotomy j k with h | h | h
    · exact absurd e ((isF_iff.1 m2.2).2 j h (isF_iff.1 m1.2).1)
    · exact h
    · exact absurd e.symm ((isF_iff.1 m1.2).2 k h (isF_iff.1 m2.2).1)
  subst ejk
  obtain ⟨ha, ea⟩ := List.getElem?_eq_some_iff.1 h1
  obtain ⟨hb, eb⟩ := List.getElem?_eq_some_iff.1 h2
  have hp := List.pairwise_iff_getElem.1 hs
  rcases Nat.lt_trichotomy a b with h | h | h
  · have := hp a b ha hb h; omega
  · exact h
  · have := hp b a hb ha h; omega
/-- step: one more of a row -/
theorem grp_more {n at' : Nat} (h : inn n = true) (hp : place q inn n (q n) = some at') :
    grp q inn (n + 1) = (grp q inn n).modify at' (· ++ [n]) ∧ ∀ p, place q inn (n + 1) p = place q inn n p := by
  obtain ⟨hl, j, hj, hq⟩ := place_lt hp
  have hjm := mem_firsts.1 (List.mem_of_getElem? hj)
  have hf : isF q inn n = false := by
    cases e : isF q inn n
    · rfl
    · exact absurd hq ((isF_iff.1 e).2 j hjm.1 (isF_iff.1 hjm.2).1)
  have e : firsts q inn (n + 1) = firsts q inn n := by rw [firsts_succ, hf]; simp
  constructor
  · refine List.ext_getElem? fun k => ?_
    unfold grp
    rw [List.getElem?_modify, List.getElem?_map, List.getElem?_map, e]
    rcases hk : (firsts q inn n)[k]? with _ | i
    · simp
    · simp only [Option.map_some]
      by_cases ek : at' = k
      · subst ek
        rw [hj] at hk
        obtain rfl : j = i := by simpa using hk
        rw [rowOf_succ]
        simp [h, hq]
      · have : q n ≠ q i := fun ee => ek (getElem?_inj_firsts hj hk (by rw [hq, ee]))
        rw [rowOf_succ]
        simp [this, ek]
  · intro p; unfold place; rw [e]
end
/-- the document's rows: number by number -/
theorem grp_ref {q : Nat → Nat} {inn : Nat → Bool} {n : Nat} (hlt : ∀ k, k < n → inn k = true → q k < n)
    (hm : ∀ i j, i < j → j < n → isF q inn i = true → isF q inn j = true → q i < q j) :
    grp q inn n = ((List.range n).map (fun p => rowOf q inn n p)).filter (fun l => !l.isEmpty) := by
  have hs : ((firsts q inn n).map q).Pairwise (· < ·) := by
    rw [List.pairwise_map]
    have h0 : (firsts q inn n).Pairwise (· < ·) := by unfold firsts; exact List.pairwise_lt_range.filter _
    refine List.Pairwise.imp_of_mem ?_ h0
    intro a b ha hb hab
    have h1 := mem_firsts.1 ha
    have h2 := mem_firsts.1 hb
    exact hm a b hab h2.1 h1.2 h2.2
  have e : (firsts q inn n).map q = (List.range n).filter (fun p => !(rowOf q inn n p).isEmpty) := by
    refine sorted_ext hs (List.pairwise_lt_range.filter _) fun x => ?_
    rw [List.mem_map, List.mem_filter, List.mem_range]
    constructor
    · rintro ⟨j, hj, rfl⟩
      have h1 := mem_firsts.1 hj
      have h2 := (isF_iff.1 h1.2).1
      refine ⟨hlt j h1.1 h2, ?_⟩
      have : j ∈ rowOf q inn n (q j) := mem_rowOf.2 ⟨h1.1, h2, rfl⟩
      cases hr : rowOf q inn n (q j)
      · rw [hr] at this; cases this
      · rfl
    · rintro ⟨hx, hr⟩
      rcases hrow : rowOf q inn n x with _ | ⟨k, l⟩
      · rw [hrow] at hr; simp at hr
      · have : k ∈ rowOf q inn n x := by rw [hrow]; simp
        obtain ⟨h1, h2, h3⟩ := mem_rowOf.1 this
        obtain ⟨j, a, b, -⟩ := has_first (q := q) (k + 1) n k (by omega) h1 h2
        exact ⟨j, a, by rw [b, h3]⟩
  rw [List.filter_map]
  show (firsts q inn n).map ((fun p => rowOf q inn n p) ∘ q) = _
  rw [← List.map_map, e]
  rfl
end Go.Proofs.Ytnlaonppgebpoaa
