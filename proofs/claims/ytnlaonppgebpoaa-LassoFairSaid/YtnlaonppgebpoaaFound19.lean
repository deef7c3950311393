/-
  Plain: the part that is found, and the circle through it.
-/
import Derived.Test.YtnlaonppgebpoaaKnown19
namespace Go.Proofs.Ytnlaonppgebpoaa

theorem good_ne {g : Gr} {en : List (List Bool)} {ag how : Int} {p : List Int} (h : goodB g en ag how p = true) : 0 < p.length := by
  obtain ⟨-, -, -, hf⟩ := goodB_iff.1 h
  exact cyc_pos (hf.elim (fun z => (fair_iff.1 z.2).1) (fun z => (fair_iff.1 z.2).1))
theorem found_good {g : Gr} {en : List (List Bool)} {ag how : Int} (hR : RT g en ag) (hS : g.S.length ≤ 100000) (hh : how = 1 ∨ how = 2) (hl : 0 < (findL g en ag how).length) : goodB g en ag how (findL g en ag how) = true := by
  rcases hh with rfl | rfl
  · rw [show findL g en ag 1 = weakL g en ag from if_pos rfl] at hl ⊢
    exact good_of_1 hR (weak_goodP hR hS hl)
  · rw [show findL g en ag 2 = strongL g en ag by unfold findL; rw [if_neg (by omega), if_pos rfl]] at hl ⊢
    exact good_of_2 hR (strong_goodP hR hS hl)
/-- it is good just if it is not empty -/
theorem found_iff {g : Gr} {en : List (List Bool)} {ag how : Int} (hR : RT g en ag) (hS : g.S.length ≤ 100000) (hh : how = 1 ∨ how = 2) : goodB g en ag how (findL g en ag how) = decide (0 < (findL g en ag how).length) := by
  by_cases hl : 0 < (findL g en ag how).length
  · rw [found_good hR hS hh hl, decide_eq_true hl]
  · rw [decide_eq_false hl]
    cases h : goodB g en ag how (findL g en ag how)
    · rfl
    · exact absurd (good_ne h) hl
/-- its nodes ascend -/
theorem bits_sorted (bits n : Nat) : (nodesL bits n).Pairwise (fun a b => a ≤ b) := by
  unfold nodesL
  rw [List.pairwise_map]
  exact (List.pairwise_lt_range.filter _).imp fun h => by omega
theorem found_sorted {g : Gr} {en : List (List Bool)} {ag how : Int} (hR : RT g en ag) (hS : g.S.length ≤ 100000) (hh : how = 1 ∨ how = 2) (hl : 0 < (findL g en ag how).length) : (findL g en ag how).Pairwise (fun a b => a ≤ b) := by
  rcases hh with rfl | rfl
  · rw [show findL g en ag 1 = weakL g en ag from if_pos rfl] at hl ⊢
    obtain ⟨b, -, -, e⟩ := weak_bits hR hS hl
    rw [e]; exact bits_sorted _ _
  · rw [show findL g en ag 2 = strongL g en ag by unfold findL; rw [if_neg (by omega), if_pos rfl]] at hl ⊢
    obtain ⟨b, -, -, e⟩ := strong_bits hR hS hl
    rw [e]; exact bits_sorted _ _
theorem leastL_sorted : ∀ {l : List Int}, l.Pairwise (fun a b => a ≤ b) → leastL l = l.getD 0 0
  | [], _ => rfl
  | x :: l, h => by
    have key : ∀ l : List Int, (∀ y ∈ l, x ≤ y) → l.foldl min x = x := by
      intro l
      induction l with
      | nil => intro _; rfl
      | cons y l ih => intro hy; rw [List.foldl_cons, Int.min_eq_left (hy y (by simp))]; exact ih (fun z hz => hy z (by simp [hz]))
    show (x :: l).foldl min x = x
    exact key _ (fun y hy => by
      rcases List.mem_cons.1 hy with rfl | hy
      · exact Int.le_refl _
      · exact (List.pairwise_cons.1 h).1 y hy)

section
variable {g : Gr} {en : List (List Bool)} {A : Nat} {mode : Int} {part : List Int}
theorem wk_pre (h : LP g en A mode part) {home : Int} (hh : home ∈ part) (k : Nat) : ∀ d, k + d ≤ A → ∃ q, (wkA g en mode (maskL (nodesN g) part) (nodesN g) home (k + d)).2.1 = (wkA g en mode (maskL (nodesN g) part) (nodesN g) home k).2.1 ++ q
  | 0, _ => ⟨[], by simp⟩
  | d + 1, hd => by
    obtain ⟨q, hq⟩ := wk_pre h hh k d (by omega)
    obtain ⟨h1, -⟩ := wk_inv h hh (k + d) (by omega)
    obtain ⟨-, -, ⟨r, hr⟩, -⟩ := step_inv h h1 (a := k + d) (by omega)
    refine ⟨q ++ r, ?_⟩
    rw [← Nat.add_assoc, wkA, hr, hq, List.append_assoc]
theorem walk_pre (h : LP g en A mode part) {home : Int} (hh : home ∈ part) {k : Nat} (hk : k ≤ A) : ∃ q, (walkL g en mode (maskL (nodesN g) part) (nodesN g) home A).2.1 = (wkA g en mode (maskL (nodesN g) part) (nodesN g) home k).2.1 ++ q := by
  obtain ⟨q, hq⟩ := wk_pre h hh k (A - k) (by omega)
  rw [show k + (A - k) = A by omega] at hq
  obtain ⟨-, -, h3, -⟩ := walk_inv h hh
  exact ⟨_, by rw [h3, hq, List.append_assoc]⟩
/-- an agent that acts within the part acts in the circle -/
theorem walk_acts (h : LP g en A mode part) {home : Int} (hh : home ∈ part) {a : Nat} (ha : a < A) (hb : actB g part (a : Int) = true) : (a : Int) ∈ (walkL g en mode (maskL (nodesN g) part) (nodesN g) home A).2.1 := by
  obtain ⟨q, hq⟩ := walk_pre h hh (k := a + 1) (by omega)
  obtain ⟨h1, -⟩ := wk_inv h hh a (by omega)
  obtain ⟨-, -, -, h4, -⟩ := step_inv h h1 ha
  rw [hq, wkA]
  exact List.mem_append_left _ (h4 hb)
theorem walk_ne (h : LP g en A mode part) {home : Int} (hh : home ∈ part) : 0 < (walkL g en mode (maskL (nodesN g) part) (nodesN g) home A).2.1.length := by
  have hc := h.cyc
  unfold cycB at hc
  obtain ⟨e, he, h1, h2⟩ := of_decide_eq_true hc
  obtain ⟨a0, a1⟩ := h.ags e he
  obtain ⟨a, ea⟩ : ∃ a : Nat, e.2.1 = (a : Int) := ⟨e.2.1.toNat, by omega⟩
  have hm := walk_acts h hh (a := a) (by omega) (actB_iff.2 ⟨e, he, ea, h1, h2⟩)
  exact List.length_pos_of_mem hm
/-- its agents are agents -/
theorem walk_ags (h : LP g en A mode part) {home : Int} (hh : home ∈ part) {i : Nat} (hi : i < (walkL g en mode (maskL (nodesN g) part) (nodesN g) home A).2.1.length) : 0 ≤ (walkL g en mode (maskL (nodesN g) part) (nodesN g) home A).2.1.getD i 0 ∧ (walkL g en mode (maskL (nodesN g) part) (nodesN g) home A).2.1.getD i 0 < (A : Int) := by
  obtain ⟨h1, -⟩ := walk_inv h hh
  exact h.ags _ (h1.step i hi).1
/-- it stops in the part -/
theorem walk_part (h : LP g en A mode part) {home : Int} (hh : home ∈ part) {i : Nat} (hi : i ≤ (walkL g en mode (maskL (nodesN g) part) (nodesN g) home A).2.1.length) : (walkL g en mode (maskL (nodesN g) part) (nodesN g) home A).2.2.getD i 0 ∈ part := by
  obtain ⟨h1, -⟩ := walk_inv h hh
  rcases Nat.eq_or_lt_of_le hi with rfl | hi
  · rw [h1.last]; exact h1.at_
  · exact (h1.step i hi).2.1
/-- weakly: of an agent that does not act, one stop is not enabled -/
theorem walk_weak (h : LP g en A 1 part) {home : Int} (hh : home ∈ part) {a : Nat} (ha : a < A) (hb : actB g part (a : Int) = false) : ∃ i, i < (walkL g en 1 (maskL (nodesN g) part) (nodesN g) home A).2.1.length ∧ (en.getD ((walkL g en 1 (maskL (nodesN g) part) (nodesN g) home A).2.2.getD i 0).toNat []).getD a false = false := by
  obtain ⟨q, hq⟩ := walk_pre h hh (k := a + 1) (by omega)
  obtain ⟨h1, -⟩ := wk_inv h hh a (by omega)
  obtain ⟨h2, -⟩ := wk_inv h hh (a + 1) (by omega)
  obtain ⟨-, -, -, -, h5⟩ := step_inv h h1 ha
  have h5 := h5 hb rfl
  rw [← wkA] at h5
  obtain ⟨w1, w2, -⟩ := walk_inv h hh
  have hne := walk_ne h hh
  have hp : (wkA g en 1 (maskL (nodesN g) part) (nodesN g) home (a + 1)).2.1.length ≤ (walkL g en 1 (maskL (nodesN g) part) (nodesN g) home A).2.1.length := by rw [hq, List.length_append]; omega
  have hs : (walkL g en 1 (maskL (nodesN g) part) (nodesN g) home A).2.2.getD (wkA g en 1 (maskL (nodesN g) part) (nodesN g) home (a + 1)).2.1.length 0 = (wkA g en 1 (maskL (nodesN g) part) (nodesN g) home (a + 1)).1 := by
    rw [← stops_fol h.R h.once w1 h.inn hh _ hp, hq, List.take_left, ← h2.last, ← stops_fol h.R h.once h2 h.inn hh _ (Nat.le_refl _), List.take_length]
  rcases Nat.eq_or_lt_of_le hp with e | hlt
  · refine ⟨0, hne, ?_⟩
    rw [e, w1.last, w2] at hs
    rw [w1.hd, hs]; exact h5
  · exact ⟨_, hlt, by rw [hs]; exact h5⟩
end

/-- the circle through a good part -/
theorem walkG_good {g : Gr} {en : List (List Bool)} {A : Nat} {mode : Int} {part : List Int} (hg : goodB g en (A : Nat) mode part = true) : walkG g en (A : Nat) mode part = walkL g en mode (maskL (nodesN g) part) (nodesN g) (leastL part) A := by
  unfold walkG
  rw [if_pos hg, Int.toNat_natCast]
theorem walkG_bad {g : Gr} {en : List (List Bool)} {ag mode : Int} {part : List Int} (hg : goodB g en ag mode part = false) : walkG g en ag mode part = (0, [], []) := by
  unfold walkG
  rw [hg]; exact if_neg (by simp)
/-- what LassoLong asks -/
structure LongP (ag : Int) (part c : List Int) (is : Bool) : Prop where
  ags : ∀ i, i < c.length → 0 ≤ c.getD i 0 ∧ c.getD i 0 < ag
  len : (c.length : Int) ≤ (ag + 1) * (part.length : Int)
  ne : is = true → 0 < c.length
theorem long_ok {g : Gr} {en : List (List Bool)} {ag mode : Int} {part : List Int} (h0 : 0 ≤ ag) (hS : g.S.length ≤ 100000) (ho : OnceP g) : LongP ag part (walkG g en ag mode part).2.1 (goodB g en ag mode part) := by
  obtain ⟨A, rfl⟩ : ∃ A : Nat, ag = (A : Int) := ⟨ag.toNat, by omega⟩
  cases hg : goodB g en (A : Nat) mode part
  · rw [walkG_bad hg]
    refine ⟨fun i hi => by simp at hi, ?_, fun q => by cases q⟩
    have : (0 : Int) ≤ ((A + 1) * part.length : Nat) := by omega
    rw [Int.natCast_mul] at this
    simpa using this
  · rw [walkG_good hg]
    have h := LP.of hS ho hg
    have hh := leastL_mem h.ne
    refine ⟨fun i hi => walk_ags h hh hi, ?_, fun _ => walk_ne h hh⟩
    obtain ⟨-, -, -, h4⟩ := walk_inv h hh
    have h5 : ((walkL g en mode (maskL (nodesN g) part) (nodesN g) (leastL part) A).2.1.length : Int) ≤ ((A + 1) * part.length : Nat) := Int.ofNat_le.2 h4
    rw [Int.natCast_mul] at h5
    simpa using h5
/-- what LassoFair asks, where something is found -/
structure FairP (g : Gr) (en : List (List Bool)) (A : Nat) (strong : Bool) (part c st : List Int) : Prop where
  ne : 0 < c.length
  len : st.length = c.length + 1
  first : st.getD 0 0 = part.getD 0 0
  last : st.getD c.length 0 = part.getD 0 0
  fol : ∀ i, i < c.length → folL g (st.getD i 0) [c.getD i 0] = st.getD (i + 1) 0
  inn : ∀ i, i ≤ c.length → 0 ≤ st.getD i 0 ∧ st.getD i 0 < (en.length : Int)
  ags : ∀ i, i < c.length → 0 ≤ c.getD i 0 ∧ c.getD i 0 < (A : Int)
  weak : strong = false → ∀ a, a < A → (a : Int) ∈ c ∨ ∃ i, i < c.length ∧ (en.getD (st.getD i 0).toNat []).getD a false = false
  strong : strong = true → ∀ a, a < A → (a : Int) ∈ c ∨ ∀ i, i < c.length → (en.getD (st.getD i 0).toNat []).getD a false = false
theorem fairp_ok {g : Gr} {en : List (List Bool)} {A : Nat} {strong : Bool} (hR : RT g en (A : Nat)) (hS : g.S.length ≤ 100000) (ho : OnceP g) {mode : Int} (hm : mode = if strong = true then 2 else 1) (hl : 0 < (findL g en (A : Nat) mode).length) :
    FairP g en A strong (findL g en (A : Nat) mode) (walkG g en (A : Nat) mode (findL g en (A : Nat) mode)).2.1 (walkG g en (A : Nat) mode (findL g en (A : Nat) mode)).2.2 := by
  have hh : mode = 1 ∨ mode = 2 := by cases strong <;> simp_all
  have hg := found_good hR hS hh hl
  have hso := leastL_sorted (found_sorted hR hS hh hl)
  rw [walkG_good hg]
  have h := LP.of hS ho hg
  have hhm := leastL_mem h.ne
  generalize findL g en (A : Nat) mode = part at *
  obtain ⟨w1, w2, -, -⟩ := walk_inv h hhm
  refine ⟨walk_ne h hhm, w1.len, by rw [w1.hd, hso], by rw [w1.last, w2, hso], fun i hi => fol_one h.R h.once (w1.step i hi).1, fun i hi => ?_, fun i hi => walk_ags h hhm hi, fun hs a ha => ?_, fun hs a ha => ?_⟩
  · obtain ⟨j, e, hj⟩ := h.inn _ (walk_part h hhm hi)
    have := h.len
    omega
  · rw [hs, if_neg (by simp)] at hm
    subst hm
    cases hb : actB g part (a : Int)
    · exact .inr (walk_weak h hhm ha hb)
    · exact .inl (walk_acts h hhm ha hb)
  · rw [hs, if_pos rfl] at hm
    cases hb : actB g part (a : Int)
    · exact .inr (fun i hi => h.strong hm a ha hb _ (walk_part h hhm (Nat.le_of_lt hi)))
    · exact .inl (walk_acts h hhm ha hb)
end Go.Proofs.Ytnlaonppgebpoaa
