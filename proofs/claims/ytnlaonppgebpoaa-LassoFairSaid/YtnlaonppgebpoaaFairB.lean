/-
  Plain: rows of groups; what 'less' leaves; the first part that is found. Plain: parts within parts; what is found is good; where something is good, something is found. Weak of both: the walks. fair.without, ref18.less: the walks. A stack of parts, and pushing those that are circles. Strong's push (function 93): the parts that are circles, the first on top. fair.Strong (function 56): the walk. ref18.strong, ref18.Strong: the walks. fair.Find, ref18.Find: the walks.
-/
import Derived.Test.YtnlaonppgebpoaaFairA
import Derived.Test.YtnlaonppgebpoaaOrderLaw
import Derived.Test.YtnlaonppgebpoaaRelTail
import Derived.Test.YtnlaonppgebpoaaAnyRel
namespace Go.Proofs.Ytnlaonppgebpoaa

/-- the first row of which p is so -/
def firstF (p : List Int → Bool) (rows : List (List Int)) : List Int := (rows.find? p).getD []
theorem firstF_at {p : List Int → Bool} : ∀ {rows : List (List Int)} {k : Nat}, k < rows.length → (∀ j, j < k → p (rows.getD j []) = false) → p (rows.getD k []) = true → firstF p rows = rows.getD k []
  | [], k, hk, _, _ => by simp at hk
  | r :: rows, 0, _, _, h => by
    have h' : p r = true := h
    unfold firstF
    rw [List.find?_cons_of_pos h']; rfl
  | r :: rows, k + 1, hk, ha, h => by
    have h0 : ¬ p r = true := by rw [show p r = false from ha 0 (by omega)]; simp
    have := firstF_at (rows := rows) (k := k) (by simpa using hk) (fun j hj => by simpa using ha (j + 1) (by omega)) (by simpa using h)
    unfold firstF at this ⊢
    rw [List.find?_cons_of_neg h0, this]; simp
theorem firstF_none {p : List Int → Bool} {rows : List (List Int)} (h : ∀ j, j < rows.length → p (rows.getD j []) = false) : firstF p rows = [] := by
  unfold firstF
  rw [List.find?_eq_none.2 ?_]; rfl
  intro r hr
  obtain ⟨j, hj, rfl⟩ := List.getElem_of_mem hr
  have := h j hj
  rw [List.getD_eq_getElem?_getD, List.getElem?_eq_getElem hj] at this
  simpa using this
theorem mem_getD {rows : List (List Int)} {k : Nat} (h : k < rows.length) : rows.getD k [] ∈ rows := by simp [List.getD, h]
theorem firstF_mem (p : List Int → Bool) (rows : List (List Int)) : firstF p rows = [] ∨ (firstF p rows ∈ rows ∧ p (firstF p rows) = true) := by
  unfold firstF
  rcases h : rows.find? p with _ | r
  · exact .inl rfl
  · exact .inr ⟨List.mem_of_find?_eq_some h, List.find?_some h⟩

/-! rows of groups -/
theorem grpI_mem {ps : List Int} {inn : Nat → Bool} {r : List Int} (h : r ∈ grpI ps inn) : ∃ j, j < ps.length ∧ inn j = true ∧ r = (rowOf (fun k => ps.getD k 0) inn ps.length (ps.getD j 0)).map (fun k : Nat => (k : Int)) := by
  unfold grpI rowsI grp at h
  simp only [List.mem_map] at h
  obtain ⟨r', ⟨j, hj, rfl⟩, rfl⟩ := h
  obtain ⟨h1, h2⟩ := mem_firsts.1 hj
  exact ⟨j, h1, (isF_iff.1 h2).1, rfl⟩
theorem rowOf_nodup (q : Nat → Int) (inn : Nat → Bool) (n : Nat) (p : Int) : ((rowOf q inn n p).map (fun k : Nat => (k : Int))).Nodup := by
  have h : (rowOf q inn n p).Pairwise (· < ·) := List.Pairwise.filter _ List.pairwise_lt_range
  exact List.Pairwise.map (fun k : Nat => (k : Int)) (fun a b hab => by show (a : Int) ≠ (b : Int); omega) h
theorem grpI_row {ps : List Int} {inn : Nat → Bool} {r : List Int} (h : r ∈ grpI ps inn) : r.Nodup ∧ r.length ≤ ps.length ∧ ∀ x ∈ r, ∃ i : Nat, x = (i : Int) ∧ i < ps.length ∧ inn i = true := by
  obtain ⟨j, -, -, rfl⟩ := grpI_mem h
  refine ⟨rowOf_nodup _ _ _ _, by rw [List.length_map]; exact rowOf_len _ _, fun x hx => ?_⟩
  obtain ⟨i, hi, rfl⟩ := List.mem_map.1 hx
  obtain ⟨h1, h2, -⟩ := mem_rowOf.1 hi
  exact ⟨i, rfl, h1, h2⟩
theorem grpI_len (ps : List Int) (inn : Nat → Bool) : (grpI ps inn).length ≤ ps.length := by
  unfold grpI; rw [rowsI_len]; exact grp_len _
theorem groupsI_row {g : Gr} {r : List Int} (h : r ∈ groupsI g) : r.length ≤ nodesN g ∧ ∀ x ∈ r, 0 ≤ x ∧ x < (nodesN g : Int) := by
  obtain ⟨-, h1, h2⟩ := grpI_row h
  rw [partsI_len] at h1 h2
  exact ⟨h1, fun x hx => by obtain ⟨i, rfl, hi, -⟩ := h2 x hx; omega⟩
theorem groupsI_len (g : Gr) : (groupsI g).length ≤ nodesN g := by
  have := grpI_len (partsI g) (fun _ => true)
  rw [partsI_len] at this
  exact this
theorem withinI_len (g : Gr) (l : List Bool) : (withinI g l).length ≤ 100000 := by
  have := grpI_len (partsI (keepG g l)) (fun i => l.getD i false)
  rw [partsI_len] at this
  exact Nat.le_trans this (keep_nodes g l)
theorem withinI_row {g : Gr} {l : List Bool} {r : List Int} (h : r ∈ withinI g l) : r.Nodup ∧ r.length ≤ 100000 ∧ ∀ x ∈ r, ∃ i : Nat, x = (i : Int) ∧ i < l.length ∧ l.getD i false = true := by
  obtain ⟨h0, h1, h2⟩ := grpI_row h
  rw [partsI_len] at h1 h2
  refine ⟨h0, Nat.le_trans h1 (keep_nodes g l), fun x hx => ?_⟩
  obtain ⟨i, rfl, -, hi⟩ := h2 x hx
  refine ⟨i, rfl, ?_, hi⟩
  refine Decidable.byContradiction fun hn => ?_
  rw [List.getD_eq_getElem?_getD, List.getElem?_eq_none (by omega)] at hi
  cases hi

/-! what less leaves -/
def lessP (g : Gr) (en : List (List Bool)) (A : Nat) (part : List Int) (i : Nat) : Bool := decide ((i : Int) ∈ part) && (List.range A).all (fun a => actB g part a || !(en.getD i []).getD a false)
def lessL (g : Gr) (en : List (List Bool)) (A : Nat) (part : List Int) : List Bool := tab en.length (lessP g en A part)
theorem nodup_len : ∀ {a b : List Int}, a.Nodup → (∀ x ∈ a, x ∈ b) → a.length ≤ b.length
  | [], _, _, _ => by simp
  | x :: a, b, hn, hs => by
    have hn' := List.nodup_cons.1 hn
    have hxb := hs x (List.mem_cons_self ..)
    have := nodup_len (a := a) (b := b.erase x) hn'.2 (fun y hy => (List.mem_erase_of_ne (fun (e : y = x) => hn'.1 (by rw [← e]; exact hy))).2 (hs y (List.mem_cons_of_mem _ hy)))
    rw [List.length_erase_of_mem hxb] at this
    have := List.length_pos_of_mem hxb
    simp; omega
/-- an agent is enabled at some node of a part -/
theorem cntN_pos {en : List (List Bool)} {part : List Int} {a : Nat} (h : 0 < cntN en part a) : ∃ x ∈ part, (en.getD x.toNat []).getD a false = true := by
  unfold cntN cntK at h
  obtain ⟨x, hx⟩ := List.exists_mem_of_length_pos h
  rw [List.take_length] at hx
  obtain ⟨h1, h2⟩ := List.mem_filter.1 hx
  exact ⟨x, h1, h2⟩
theorem pos_cntN {en : List (List Bool)} {part : List Int} {a : Nat} {x : Int} (hx : x ∈ part) (h : (en.getD x.toNat []).getD a false = true) : 0 < cntN en part a := by
  unfold cntN cntK
  rw [List.take_length]
  exact List.length_pos_of_mem (List.mem_filter.2 ⟨hx, h⟩)
/-- a row of what is left of a part that is spoilt is shorter -/
theorem less_shorter {g : Gr} {en : List (List Bool)} {A : Nat} {part r : List Int} (_hin : ∀ x ∈ part, 0 ≤ x ∧ x < (en.length : Int)) (hs : ¬ (spK g en spS part A).length = 0) (hr : r ∈ withinI g (lessL g en A part)) : r.length + 1 ≤ part.length := by
  obtain ⟨hn, -, hm⟩ := withinI_row hr
  have hm' : ∀ x ∈ r, ∃ i : Nat, x = (i : Int) ∧ i < en.length ∧ lessP g en A part i = true := fun x hx => by
    obtain ⟨i, rfl, h1, h2⟩ := hm x hx
    unfold lessL at h1 h2
    rw [tab_len] at h1
    rw [tab_get _ _ _ _ h1] at h2
    exact ⟨i, rfl, h1, h2⟩
  rw [spK_nil] at hs
  obtain ⟨a, ha⟩ := Classical.not_forall.1 hs
  obtain ⟨ha, hb⟩ := Classical.not_imp.1 ha
  have hb : spB g en spS part a = true := by cases h : spB g en spS part a; exact absurd h hb; rfl
  unfold spB at hb
  rw [Bool.and_eq_true] at hb
  obtain ⟨h1, h2⟩ := hb
  have h3 : 0 < cntN en part a := by unfold spS at h2; exact of_decide_eq_true h2
  obtain ⟨y, hy, he⟩ := cntN_pos h3
  have hyr : y ∉ r := fun hyr => by
    obtain ⟨i, rfl, hi, hp⟩ := hm' y hyr
    unfold lessP at hp
    rw [Bool.and_eq_true] at hp
    have := List.all_eq_true.1 hp.2 a (List.mem_range.2 ha)
    rw [Int.toNat_natCast] at he
    rw [he] at this
    simp at this h1
    rw [this] at h1
    cases h1
  have := nodup_len (a := y :: r) (b := part) (List.nodup_cons.2 ⟨hyr, hn⟩) (fun x hx => by
    rcases List.mem_cons.1 hx with rfl | hx
    · exact hy
    · obtain ⟨i, rfl, -, hp⟩ := hm' x hx
      unfold lessP at hp
      rw [Bool.and_eq_true] at hp
      exact of_decide_eq_true hp.1)
  simpa using this

/-! the first part that is strongly fair -/
noncomputable def pickR (g : Gr) (en : List (List Bool)) (A : Nat) (SUB : List Int → List Int) : List (List Int) → List Int
  | [] => []
  | l :: rest => if cycB g l = true then (if fairB g en spS A l = true then l else if 0 < (SUB l).length then SUB l else pickR g en A SUB rest) else pickR g en A SUB rest
noncomputable def stR (g : Gr) (en : List (List Bool)) (A : Nat) : Nat → List (List Int) → List Int
  | 0, _ => []
  | n + 1, rows => pickR g en A (fun l => stR g en A n (withinI g (lessL g en A l))) rows
theorem cyc_pos {g : Gr} {l : List Int} (h : cycB g l = true) : 0 < l.length := by
  unfold cycB at h
  obtain ⟨e, -, h1, -⟩ := of_decide_eq_true h
  exact List.length_pos_of_mem h1
theorem pickR_skip {g : Gr} {en : List (List Bool)} {A : Nat} {SUB : List Int → List Int} {l : List Int} {rest : List (List Int)} (h : cycB g l = false) : pickR g en A SUB (l :: rest) = pickR g en A SUB rest := by
  rw [pickR, h]; rfl
theorem pickR_fair {g : Gr} {en : List (List Bool)} {A : Nat} {SUB : List Int → List Int} {l : List Int} {rest : List (List Int)} (h : cycB g l = true) (h2 : fairB g en spS A l = true) : pickR g en A SUB (l :: rest) = l := by
  rw [pickR, if_pos h, if_pos h2]
theorem pickR_sub {g : Gr} {en : List (List Bool)} {A : Nat} {SUB : List Int → List Int} {l : List Int} {rest : List (List Int)} (h : cycB g l = true) (h2 : fairB g en spS A l = false) (h3 : 0 < (SUB l).length) : pickR g en A SUB (l :: rest) = SUB l := by
  rw [pickR, if_pos h, h2, if_neg (by simp), if_pos h3]
theorem pickR_next {g : Gr} {en : List (List Bool)} {A : Nat} {SUB : List Int → List Int} {l : List Int} {rest : List (List Int)} (h : cycB g l = true) (h2 : fairB g en spS A l = false) (h3 : ¬ 0 < (SUB l).length) : pickR g en A SUB (l :: rest) = pickR g en A SUB rest := by
  rw [pickR, if_pos h, h2, if_neg (by simp), if_neg h3]
theorem pickR_app (g : Gr) (en : List (List Bool)) (A : Nat) (SUB : List Int → List Int) (b : List (List Int)) : ∀ a : List (List Int), pickR g en A SUB (a ++ b) = if 0 < (pickR g en A SUB a).length then pickR g en A SUB a else pickR g en A SUB b
  | [] => by simp [pickR]
  | l :: a => by
    have ih := pickR_app g en A SUB b a
    rw [List.cons_append]
    cases hc : cycB g l
    · rw [pickR_skip hc, pickR_skip hc, ih]
    · cases hf : fairB g en spS A l
      · by_cases h3 : 0 < (SUB l).length
        · rw [pickR_sub hc hf h3, pickR_sub hc hf h3, if_pos h3]
        · rw [pickR_next hc hf h3, pickR_next hc hf h3, ih]
      · rw [pickR_fair hc hf, pickR_fair hc hf, if_pos (cyc_pos hc)]
theorem pickR_filter (g : Gr) (en : List (List Bool)) (A : Nat) (SUB : List Int → List Int) : ∀ a : List (List Int), pickR g en A SUB (a.filter (cycB g)) = pickR g en A SUB a
  | [] => rfl
  | l :: a => by
    have ih := pickR_filter g en A SUB a
    cases hc : cycB g l
    · rw [List.filter_cons_of_neg (by rw [hc]; simp), pickR_skip hc, ih]
    · rw [List.filter_cons_of_pos hc]
      cases hf : fairB g en spS A l
      · by_cases h3 : 0 < (SUB l).length
        · rw [pickR_sub hc hf h3, pickR_sub hc hf h3]
        · rw [pickR_next hc hf h3, pickR_next hc hf h3, ih]
      · rw [pickR_fair hc hf, pickR_fair hc hf]
theorem pickR_congr {g : Gr} {en : List (List Bool)} {A : Nat} {S S' : List Int → List Int} : ∀ {a : List (List Int)}, (∀ l ∈ a, cycB g l = true → fairB g en spS A l = false → S l = S' l) → pickR g en A S a = pickR g en A S' a
  | [], _ => rfl
  | l :: a, h => by
    have ih := pickR_congr (a := a) (fun x hx => h x (List.mem_cons_of_mem _ hx))
    cases hc : cycB g l
    · rw [pickR_skip hc, pickR_skip hc, ih]
    · cases hf : fairB g en spS A l
      · have e := h l (List.mem_cons_self ..) hc hf
        by_cases h3 : 0 < (S l).length
        · rw [pickR_sub hc hf h3, pickR_sub hc hf (by rw [← e]; exact h3), e]
        · rw [pickR_next hc hf h3, pickR_next hc hf (by rw [← e]; exact h3), ih]
      · rw [pickR_fair hc hf, pickR_fair hc hf]
/-- rows that lie in the table -/
def InT (en : List (List Bool)) (r : List Int) : Prop := ∀ x ∈ r, 0 ≤ x ∧ x < (en.length : Int)
theorem less_in {g : Gr} {en : List (List Bool)} {A : Nat} {part r : List Int} (hr : r ∈ withinI g (lessL g en A part)) : InT en r := fun x hx => by
  obtain ⟨i, rfl, h1, -⟩ := (withinI_row hr).2.2 x hx
  unfold lessL at h1
  rw [tab_len] at h1
  omega
theorem unfair_spoilt {g : Gr} {en : List (List Bool)} {A : Nat} {l : List Int} (hc : cycB g l = true) (hf : fairB g en spS A l = false) : ¬ (spK g en spS l A).length = 0 := by
  intro h
  unfold fairB at hf
  rw [hc, decide_eq_true h] at hf
  cases hf
/-- beyond the rows' length more steps find the same -/
theorem stR_more {g : Gr} {en : List (List Bool)} {A : Nat} : ∀ (n m : Nat) (rows : List (List Int)), n ≤ m → (∀ r ∈ rows, InT en r ∧ r.length ≤ n) → stR g en A n rows = stR g en A m rows
  | 0, 0, _, _, _ => rfl
  | 0, m + 1, rows, _, h => by
    have : ∀ a : List (List Int), (∀ r ∈ a, r.length ≤ 0) → pickR g en A (fun l => stR g en A m (withinI g (lessL g en A l))) a = [] := by
      intro a ha
      induction a with
      | nil => rfl
      | cons l a ih =>
        cases hc : cycB g l
        · rw [pickR_skip hc]; exact ih (fun r hr => ha r (List.mem_cons_of_mem _ hr))
        · have := cyc_pos hc; have := ha l (List.mem_cons_self ..); omega
    exact (this rows (fun r hr => (h r hr).2)).symm
  | n + 1, 0, _, hnm, _ => by omega
  | n + 1, m + 1, rows, hnm, h => by
    refine pickR_congr fun l hl hc hf => ?_
    refine stR_more n m _ (by omega) (fun r hr => ⟨less_in hr, ?_⟩)
    have h1 := h l hl
    have := less_shorter h1.1 (unfair_spoilt hc hf) hr
    omega
/-- what is spoilt is taken apart: its parts first -/
theorem stR_step {g : Gr} {en : List (List Bool)} {A N : Nat} {p : List Int} {rest : List (List Int)} (hp : InT en p ∧ p.length ≤ N) (hc : cycB g p = true) (hs : ¬ (spK g en spS p A).length = 0) :
    stR g en A N ((withinI g (lessL g en A p)).filter (cycB g) ++ rest) = stR g en A N (p :: rest) := by
  cases N with
  | zero => rfl
  | succ n =>
    have hf : fairB g en spS A p = false := by unfold fairB; rw [decide_eq_false hs]; simp
    have e1 : pickR g en A (fun l => stR g en A n (withinI g (lessL g en A l))) ((withinI g (lessL g en A p)).filter (cycB g)) = stR g en A n (withinI g (lessL g en A p)) := by
      rw [pickR_filter]
      exact (stR_more n (n + 1) _ (by omega) (fun r hr => ⟨less_in hr, by have := less_shorter hp.1 hs hr; omega⟩)).symm
    show pickR g en A _ _ = pickR g en A _ _
    rw [pickR_app, e1]
    by_cases h3 : 0 < (stR g en A n (withinI g (lessL g en A p))).length
    · rw [if_pos h3, pickR_sub hc hf h3]
    · rw [if_neg h3, pickR_next hc hf h3]
theorem stR_head {g : Gr} {en : List (List Bool)} {A N : Nat} {p : List Int} {rest : List (List Int)} (hp : p.length ≤ N) (hc : cycB g p = true) (hs : (spK g en spS p A).length = 0) : stR g en A N (p :: rest) = p := by
  cases N with
  | zero => have := cyc_pos hc; omega
  | succ n => exact pickR_fair hc (by unfold fairB; rw [hc, decide_eq_true hs]; rfl)
theorem stR_nil (g : Gr) (en : List (List Bool)) (A N : Nat) : stR g en A N [] = [] := by cases N <;> rfl
theorem stR_filter (g : Gr) (en : List (List Bool)) (A N : Nat) (rows : List (List Int)) : stR g en A N (rows.filter (cycB g)) = stR g en A N rows := by
  cases N with
  | zero => rfl
  | succ n => exact pickR_filter _ _ _ _ _
/-- how much is to do -/
def work (W : List (List Int)) : Nat := (W.map (fun r => 100001 ^ r.length)).sum
theorem work_app (a b : List (List Int)) : work (a ++ b) = work a + work b := by simp [work]
theorem work_le {n : Nat} : ∀ {a : List (List Int)}, (∀ r ∈ a, r.length ≤ n) → work a ≤ a.length * 100001 ^ n
  | [], _ => by simp [work]
  | r :: a, h => by
    have ih := work_le (a := a) (fun x hx => h x (List.mem_cons_of_mem _ hx))
    have h1 : 100001 ^ r.length ≤ 100001 ^ n := Nat.pow_le_pow_right (by omega) (h r (List.mem_cons_self ..))
    have e : work (r :: a) = 100001 ^ r.length + work a := by simp [work]
    rw [e, List.length_cons, Nat.succ_mul]
    omega
theorem work_step {g : Gr} {en : List (List Bool)} {A : Nat} {p : List Int} {rest : List (List Int)} (hp : InT en p) (hs : ¬ (spK g en spS p A).length = 0) :
    work ((withinI g (lessL g en A p)).filter (cycB g) ++ rest) < work (p :: rest) := by
  have e : work (p :: rest) = 100001 ^ p.length + work rest := by simp [work]
  rw [work_app, e]
  have h1 : ((withinI g (lessL g en A p)).filter (cycB g)).length ≤ 100000 := Nat.le_trans (List.length_filter_le _ _) (withinI_len _ _)
  have hlen : ∀ r ∈ (withinI g (lessL g en A p)).filter (cycB g), r.length ≤ p.length - 1 := fun r hr => by
    have := less_shorter hp hs (List.mem_filter.1 hr).1
    omega
  have h2 := work_le hlen
  have hpos : 0 < p.length := by
    rw [spK_nil] at hs
    refine Decidable.byContradiction fun hn => hs fun a ha => ?_
    have : p = [] := List.length_eq_zero_iff.1 (by omega)
    subst this
    unfold spB spS cntN cntK
    simp
  obtain ⟨m, hm⟩ : ∃ m, p.length = m + 1 := ⟨p.length - 1, by omega⟩
  rw [hm] at h2 ⊢
  have h3 : 0 < 100001 ^ m := Nat.pow_pos (by omega)
  have h4 : (100001 : Nat) ^ (m + 1) = 100001 ^ m * 100001 := Nat.pow_succ ..
  have h5 : ((withinI g (lessL g en A p)).filter (cycB g)).length * 100001 ^ (m + 1 - 1) ≤ 100000 * 100001 ^ m := Nat.mul_le_mul_right _ h1
  generalize (100001 : Nat) ^ m = z at *
  omega
end Go.Proofs.Ytnlaonppgebpoaa

namespace Go.Proofs.Ytnlaonppgebpoaa

theorem inB_nat {l : List Bool} {a : Nat} : inB l (a : Int) = true ↔ l.getD a false = true := by
  unfold inB
  rw [Bool.and_eq_true, decide_eq_true_iff, Int.toNat_natCast]
  constructor
  · exact fun h => h.2
  · intro h
    refine ⟨?_, h⟩
    refine Decidable.byContradiction fun hn => ?_
    rw [List.getD_eq_getElem?_getD, List.getElem?_eq_none (by omega)] at h
    cases h
theorem keep_csr {g : Gr} (h : Rt g) (hn : g.S.length ≤ 100000) (l : List Bool) : ∃ L, keepG g l = csr (nodesN g) L ∧ buildOk (nodesN g : Nat) L = true ∧ ∀ e, e ∈ L ↔ e ∈ allL g ∧ inB l e.1 = true ∧ inB l e.2.2 = true := by
  have hL : ∀ e, e ∈ tellL (keepE l) (allL g) ↔ e ∈ allL g ∧ inB l e.1 = true ∧ inB l e.2.2 = true := fun e => by
    unfold tellL
    rw [List.mem_map]
    constructor
    · rintro ⟨e', he, rfl⟩
      obtain ⟨h1, h2⟩ := List.mem_filter.1 he
      have h3 : (inB l e'.1 && inB l e'.2.2) = true := h2
      rw [Bool.and_eq_true] at h3
      exact ⟨h1, h3.1, h3.2⟩
    · rintro ⟨h1, h2, h3⟩
      refine ⟨e, List.mem_filter.2 ⟨h1, ?_⟩, rfl⟩
      show (inB l e.1 && inB l e.2.2) = true
      rw [h2, h3]; rfl
  have hb : buildOk (nodesN g : Nat) (tellL (keepE l) (allL g)) = true := by
    have hnr := nodesN_right h
    refine buildOk_intro (by omega) fun e he => ?_
    have := allL_mem h ((hL e).1 he).1
    omega
  refine ⟨_, ?_, hb, hL⟩
  unfold keepG
  rw [madeG_right h, buildG_ok hb]
theorem keep_nodesN {g : Gr} (h : Rt g) (hn : g.S.length ≤ 100000) (l : List Bool) : nodesN (keepG g l) = nodesN g := by
  obtain ⟨L, e, hb, -⟩ := keep_csr h hn l
  rw [e, csr_nodes hb]
theorem eg_keep {g : Gr} (h : Rt g) (hn : g.S.length ≤ 100000) (l : List Bool) (a b : Nat) : Eg (keepG g l) a b ↔ Eg g a b ∧ l.getD a false = true ∧ l.getD b false = true := by
  obtain ⟨L, e, hb, hL⟩ := keep_csr h hn l
  unfold Eg
  rw [e]
  constructor
  · rintro ⟨x, hx, h1, h2⟩
    obtain ⟨h3, h4, h5⟩ := (hL x).1 ((mem_all_csr hb x).1 hx)
    rw [h1] at h4; rw [h2] at h5
    exact ⟨⟨x, h3, h1, h2⟩, inB_nat.1 h4, inB_nat.1 h5⟩
  · rintro ⟨⟨x, hx, h1, h2⟩, h4, h5⟩
    refine ⟨x, (mem_all_csr hb x).2 ((hL x).2 ⟨hx, ?_, ?_⟩), h1, h2⟩
    · rw [h1]; exact inB_nat.2 h4
    · rw [h2]; exact inB_nat.2 h5
/-- the row of a node among the nodes that are in -/
noncomputable def rowW (g : Gr) (l : List Bool) (j : Nat) : List Int := ((List.range (nodesN g)).filter (fun k => l.getD k false && decide (partN (keepG g l) k = partN (keepG g l) j))).map (fun k : Nat => (k : Int))
theorem mem_rowW {g : Gr} {l : List Bool} {j : Nat} {x : Int} : x ∈ rowW g l j ↔ ∃ k : Nat, x = (k : Int) ∧ k < nodesN g ∧ l.getD k false = true ∧ SC (keepG g l) k j := by
  unfold rowW
  rw [List.mem_map]
  constructor
  · rintro ⟨k, hk, rfl⟩
    obtain ⟨h1, h2⟩ := List.mem_filter.1 hk
    rw [Bool.and_eq_true, decide_eq_true_iff, partN_eq] at h2
    exact ⟨k, rfl, List.mem_range.1 h1, h2.1, h2.2⟩
  · rintro ⟨k, rfl, h1, h2, h3⟩
    refine ⟨k, List.mem_filter.2 ⟨List.mem_range.2 h1, ?_⟩, rfl⟩
    rw [Bool.and_eq_true, decide_eq_true_iff, partN_eq]
    exact ⟨h2, h3⟩
theorem rowOf_rowW {g : Gr} (h : Rt g) (hn : g.S.length ≤ 100000) (l : List Bool) {j : Nat} (hj : j < nodesN g) :
    (rowOf (fun k => (partsI (keepG g l)).getD k 0) (fun i => l.getD i false) (nodesN g) ((partsI (keepG g l)).getD j 0)).map (fun k : Nat => (k : Int)) = rowW g l j := by
  have hk := keep_nodesN h hn l
  unfold rowW rowOf
  congr 1
  refine List.filter_congr fun k hkr => ?_
  have hkr := List.mem_range.1 hkr
  show (l.getD k false && decide ((partsI (keepG g l)).getD k 0 = (partsI (keepG g l)).getD j 0)) = _
  rw [partsI_get (by omega), partsI_get (by omega)]
  congr 1
  exact decide_same ⟨fun e => by omega, fun e => by rw [e]⟩
theorem within_rows {g : Gr} (h : Rt g) (hn : g.S.length ≤ 100000) {l : List Bool} {r : List Int} : r ∈ withinI g l ↔ ∃ j, j < nodesN g ∧ l.getD j false = true ∧ r = rowW g l j := by
  have hk := keep_nodesN h hn l
  constructor
  · intro hr
    obtain ⟨j, hj, hin, rfl⟩ := grpI_mem hr
    rw [partsI_len, hk] at hj ⊢
    exact ⟨j, hj, hin, rowOf_rowW h hn l hj⟩
  · rintro ⟨j, hj, hin, rfl⟩
    obtain ⟨j', hj', e, -⟩ := has_first (q := fun k => (partsI (keepG g l)).getD k 0) (inn := fun i => l.getD i false) (j + 1) (nodesN g) j (by omega) hj hin
    rw [← rowOf_rowW h hn l hj]
    unfold withinI grpI rowsI grp
    rw [partsI_len, hk]
    refine List.mem_map.2 ⟨_, List.mem_map.2 ⟨j', hj', ?_⟩, rfl⟩
    exact congrArg (rowOf _ _ _) e
theorem within_len {g : Gr} (h : Rt g) (hn : g.S.length ≤ 100000) (l : List Bool) : (withinI g l).length = (firsts (fun k => (partsI (keepG g l)).getD k 0) (fun i => l.getD i false) (nodesN g)).length := by
  unfold withinI grpI
  rw [rowsI_len, partsI_len, keep_nodesN h hn l]
  unfold grp
  rw [List.length_map]
/-- one row: all that are in lead to each other, within -/
theorem within_one {g : Gr} (h : Rt g) (hn : g.S.length ≤ 100000) {l : List Bool} : (withinI g l).length = 1 ↔ (∃ j, j < nodesN g ∧ l.getD j false = true) ∧ ∀ i j, i < nodesN g → j < nodesN g → l.getD i false = true → l.getD j false = true → SC (keepG g l) i j := by
  have hk := keep_nodesN h hn l
  have hq : ∀ i j, i < nodesN g → j < nodesN g → ((partsI (keepG g l)).getD i 0 = (partsI (keepG g l)).getD j 0 ↔ SC (keepG g l) i j) := fun i j hi hj => by
    rw [partsI_get (by omega), partsI_get (by omega), ← partN_eq]
    exact ⟨fun e => by omega, fun e => by rw [e]⟩
  rw [within_len h hn]
  constructor
  · intro h1
    obtain ⟨f, hf⟩ := List.length_eq_one_iff.1 h1
    have hff : f ∈ firsts (fun k => (partsI (keepG g l)).getD k 0) (fun i => l.getD i false) (nodesN g) := by rw [hf]; simp
    have hall : ∀ i, i < nodesN g → l.getD i false = true → (partsI (keepG g l)).getD f 0 = (partsI (keepG g l)).getD i 0 := fun i hi hin => by
      obtain ⟨j', hj', e, -⟩ := has_first (q := fun k => (partsI (keepG g l)).getD k 0) (inn := fun i => l.getD i false) (i + 1) (nodesN g) i (by omega) hi hin
      rw [hf, List.mem_singleton] at hj'
      subst hj'
      exact e
    refine ⟨⟨f, (mem_firsts.1 hff).1, (isF_iff.1 (mem_firsts.1 hff).2).1⟩, fun i j hi hj h1 h2 => (hq i j hi hj).1 ?_⟩
    rw [← hall i hi h1, hall j hj h2]
  · rintro ⟨⟨j, hj, hin⟩, hall⟩
    obtain ⟨j', hj', -, -⟩ := has_first (q := fun k => (partsI (keepG g l)).getD k 0) (inn := fun i => l.getD i false) (j + 1) (nodesN g) j (by omega) hj hin
    have hpos := List.length_pos_of_mem hj'
    have hp : (firsts (fun k => (partsI (keepG g l)).getD k 0) (fun i => l.getD i false) (nodesN g)).Pairwise (· < ·) := List.pairwise_lt_range.filter _
    generalize hF : firsts (fun k => (partsI (keepG g l)).getD k 0) (fun i => l.getD i false) (nodesN g) = F at *
    match F, hpos, hp with
    | [_], _, _ => rfl
    | a :: b :: F', _, hp =>
      exfalso
      have hab : a < b := (List.pairwise_cons.1 hp).1 b (List.mem_cons_self ..)
      have ha : a ∈ firsts (fun k => (partsI (keepG g l)).getD k 0) (fun i => l.getD i false) (nodesN g) := by rw [hF]; simp
      have hb : b ∈ firsts (fun k => (partsI (keepG g l)).getD k 0) (fun i => l.getD i false) (nodesN g) := by rw [hF]; simp
      obtain ⟨ha1, ha2⟩ := mem_firsts.1 ha
      obtain ⟨hb1, hb2⟩ := mem_firsts.1 hb
      have hia := (isF_iff.1 ha2).1
      have hib := isF_iff.1 hb2
      exact hib.2 a hab hia ((hq a b ha1 hb1).2 (hall a b ha1 hb1 hia hib.1))
/-! a part as what is in -/
def maskL (n : Nat) (part : List Int) : List Bool := tab n (fun i => decide ((i : Int) ∈ part))
theorem maskL_get {n : Nat} {part : List Int} {i : Nat} (h : i < n) : (maskL n part).getD i false = true ↔ (i : Int) ∈ part := by
  unfold maskL
  rw [tab_get _ _ _ _ h, decide_eq_true_iff]
theorem maskL_len (n : Nat) (part : List Int) : (maskL n part).length = n := by unfold maskL; rw [tab_len]
theorem eg_lt {g : Gr} (h : Rt g) {a b : Nat} (he : Eg g a b) : a < nodesN g ∧ b < nodesN g := by
  obtain ⟨e, he, h1, h2⟩ := he
  have := allL_mem h he
  have := nodesN_right h
  omega
/-- the nodes of a row lead to each other within the row -/
theorem row_con {g : Gr} (h : Rt g) (hn : g.S.length ≤ 100000) {l : List Bool} {r : List Int} (hr : r ∈ withinI g l) : (withinI g (maskL (nodesN g) r)).length = 1 := by
  obtain ⟨j, hj, hin, rfl⟩ := (within_rows h hn).1 hr
  rw [within_one h hn]
  have hme : ∀ k, k < nodesN g → ((maskL (nodesN g) (rowW g l j)).getD k false = true ↔ l.getD k false = true ∧ SC (keepG g l) k j) := fun k hk => by
    rw [maskL_get hk, mem_rowW]
    constructor
    · rintro ⟨k', e, -, h1, h2⟩
      obtain rfl : k = k' := by omega
      exact ⟨h1, h2⟩
    · rintro ⟨h1, h2⟩
      exact ⟨k, rfl, hk, h1, h2⟩
  have key : ∀ a b, Pth (Eg (keepG g l)) a b → SC (keepG g l) a j → Pth (Eg (keepG g l)) b a → Pth (Eg (keepG g (maskL (nodesN g) (rowW g l j)))) a b := by
    intro a b hp
    induction hp with
    | refl => intros; exact .refl _
    | @step x b hx he ih =>
      intro hsa hba
      have hxa : Pth (Eg (keepG g l)) x a := (Pth.one he).trans hba
      have hsx : SC (keepG g l) x j := ⟨hxa.trans hsa.1, hsa.2.trans hx⟩
      have hsb : SC (keepG g l) b j := ⟨hba.trans hsa.1, hsa.2.trans (hx.trans (Pth.one he))⟩
      refine .step (ih hsa hxa) ?_
      rw [eg_keep h hn] at he ⊢
      obtain ⟨he1, he2, he3⟩ := he
      obtain ⟨hl1, hl2⟩ := eg_lt h he1
      exact ⟨he1, (hme x hl1).2 ⟨he2, hsx⟩, (hme b hl2).2 ⟨he3, hsb⟩⟩
  refine ⟨⟨j, hj, (hme j hj).2 ⟨hin, SC.refl _ _⟩⟩, fun a b ha hb h1 h2 => ?_⟩
  have ha' := ((hme a ha).1 h1).2
  have hb' := ((hme b hb).1 h2).2
  have hab : SC (keepG g l) a b := ha'.trans hb'.symm
  exact ⟨key a b hab.1 ha' hab.2, key b a hab.2 hb' hab.1⟩
/-- a part whose nodes lead to each other lies in one row of whatever it lies in -/
theorem part_row {g : Gr} (h : Rt g) (hn : g.S.length ≤ 100000) {l : List Bool} {p : List Int} (hin : ∀ x ∈ p, ∃ i : Nat, x = (i : Int) ∧ i < nodesN g ∧ l.getD i false = true) (hp : (withinI g (maskL (nodesN g) p)).length = 1) :
    ∃ r ∈ withinI g l, ∀ x ∈ p, x ∈ r := by
  obtain ⟨⟨j, hj, hjp⟩, hall⟩ := (within_one h hn).1 hp
  have hjm := (maskL_get hj).1 hjp
  obtain ⟨j', e, -, hjl⟩ := hin _ hjm
  obtain rfl : j = j' := by omega
  refine ⟨rowW g l j, (within_rows h hn).2 ⟨j, hj, hjl, rfl⟩, fun x hx => ?_⟩
  obtain ⟨i, rfl, hi, hil⟩ := hin x hx
  have hsc := hall i j hi hj ((maskL_get hi).2 hx) hjp
  have hm : ∀ a b, Pth (Eg (keepG g (maskL (nodesN g) p))) a b → Pth (Eg (keepG g l)) a b := fun a b hab => pth_mono (fun a b he => by
    rw [eg_keep h hn] at he
    obtain ⟨he1, he2, he3⟩ := he
    obtain ⟨hl1, hl2⟩ := eg_lt h he1
    obtain ⟨i1, e1, -, hq1⟩ := hin _ ((maskL_get hl1).1 he2)
    obtain ⟨i2, e2, -, hq2⟩ := hin _ ((maskL_get hl2).1 he3)
    obtain rfl : a = i1 := by omega
    obtain rfl : b = i2 := by omega
    exact .one ((eg_keep h hn l a b).2 ⟨he1, hq1, hq2⟩)) hab
  exact mem_rowW.2 ⟨i, rfl, hi, hil, hm _ _ hsc.1, hm _ _ hsc.2⟩
/-! more nodes -/
theorem cyc_more {g : Gr} {p r : List Int} (h : ∀ x ∈ p, x ∈ r) (hc : cycB g p = true) : cycB g r = true := by
  unfold cycB at hc ⊢
  obtain ⟨e, he, h1, h2⟩ := of_decide_eq_true hc
  exact decide_eq_true ⟨e, he, h _ h1, h _ h2⟩
theorem act_more {g : Gr} {p r : List Int} (h : ∀ x ∈ p, x ∈ r) {a : Int} (hc : actB g r a = false) : actB g p a = false := by
  cases hp : actB g p a
  · rfl
  · unfold actB at hp hc
    obtain ⟨e, he, h0, h1, h2⟩ := of_decide_eq_true hp
    exact absurd ⟨e, he, h0, h _ h1, h _ h2⟩ (of_decide_eq_false hc)
theorem cntN_all {en : List (List Bool)} {p : List Int} {a : Nat} : cntN en p a = p.length ↔ ∀ x ∈ p, (en.getD x.toNat []).getD a false = true := by
  unfold cntN cntK
  rw [List.take_length, List.length_filter_eq_length_iff]
theorem fair_iff {g : Gr} {en : List (List Bool)} {sp : Nat → Nat → Bool} {A : Nat} {p : List Int} : fairB g en sp A p = true ↔ cycB g p = true ∧ ∀ a, a < A → spB g en sp p a = false := by
  unfold fairB
  rw [Bool.and_eq_true, decide_eq_true_iff, spK_nil]
/-- a part that is weakly fair makes all that hold it weakly fair -/
theorem weak_more {g : Gr} {en : List (List Bool)} {A : Nat} {p r : List Int} (h : ∀ x ∈ p, x ∈ r) (hf : fairB g en spW A p = true) : fairB g en spW A r = true := by
  rw [fair_iff] at hf ⊢
  refine ⟨cyc_more h hf.1, fun a ha => ?_⟩
  cases hs : spB g en spW r a
  · rfl
  · exfalso
    have hp := hf.2 a ha
    unfold spB at hs hp
    rw [Bool.and_eq_true, Bool.not_eq_true'] at hs
    rw [act_more h hs.1] at hp
    have h2 : cntN en r a = r.length := of_decide_eq_true hs.2
    have h3 : cntN en p a = p.length := cntN_all.2 fun x hx => cntN_all.1 h2 x (h x hx)
    rw [h3] at hp
    simp [spW] at hp
theorem strong_weak {g : Gr} {en : List (List Bool)} {A : Nat} {p : List Int} (hf : fairB g en spS A p = true) : fairB g en spW A p = true := by
  rw [fair_iff] at hf ⊢
  refine ⟨hf.1, fun a ha => ?_⟩
  have hp := hf.2 a ha
  have hl := cyc_pos hf.1
  unfold spB at hp ⊢
  cases hac : actB g p a
  · rw [hac] at hp
    have h1 : spS (cntN en p a) p.length = false := by simpa using hp
    unfold spS at h1
    have h2 := of_decide_eq_false h1
    have h3 : spW (cntN en p a) p.length = false := decide_eq_false (by omega)
    rw [h3]; rfl
  · rfl
/-- a part that is good: of one piece, and fair -/
structure GoodP (g : Gr) (en : List (List Bool)) (sp : Nat → Nat → Bool) (A : Nat) (p : List Int) : Prop where
  nd : p.Nodup
  inn : ∀ x ∈ p, ∃ i : Nat, x = (i : Int) ∧ i < nodesN g
  one : (withinI g (maskL (nodesN g) p)).length = 1
  fair : fairB g en sp A p = true
theorem row_good {g : Gr} (h : Rt g) (hn : g.S.length ≤ 100000) {l : List Bool} {r : List Int} (hr : r ∈ withinI g l) {en : List (List Bool)} {sp : Nat → Nat → Bool} {A : Nat} (hf : fairB g en sp A r = true) : GoodP g en sp A r := by
  refine ⟨(withinI_row hr).1, fun x hx => ?_, row_con h hn hr, hf⟩
  obtain ⟨j, -, -, rfl⟩ := (within_rows h hn).1 hr
  obtain ⟨k, rfl, hk, -⟩ := mem_rowW.1 hx
  exact ⟨k, rfl, hk⟩
theorem groups_within {g : Gr} (h : Rt g) (hn : g.S.length ≤ 100000) : groupsI g = withinI g (List.replicate (nodesN g) true) := by
  rw [groups_eq, within_eq]
  unfold rgroupsI rwithinI
  rw [keep_all h hn]
theorem part_group {g : Gr} (h : Rt g) (hn : g.S.length ≤ 100000) {p : List Int} (hin : ∀ x ∈ p, ∃ i : Nat, x = (i : Int) ∧ i < nodesN g) (hp : (withinI g (maskL (nodesN g) p)).length = 1) : ∃ r ∈ groupsI g, ∀ x ∈ p, x ∈ r := by
  rw [groups_within h hn]
  refine part_row h hn (fun x hx => ?_) hp
  obtain ⟨i, rfl, hi⟩ := hin x hx
  exact ⟨i, rfl, hi, by simp [List.getD, hi]⟩
/-! weakly -/
theorem firstF_some {p : List Int → Bool} {rows : List (List Int)} {r : List Int} (hr : r ∈ rows) (hp : p r = true) (hpos : ∀ x ∈ rows, p x = true → 0 < x.length) : 0 < (firstF p rows).length := by
  unfold firstF
  rcases h : rows.find? p with _ | x
  · exact absurd hp (List.find?_eq_none.1 h r hr)
  · exact hpos x (List.mem_of_find?_eq_some h) (List.find?_some h)
theorem weak_good {g : Gr} (h : Rt g) (hn : g.S.length ≤ 100000) {en : List (List Bool)} {A : Nat} (hl : 0 < (firstF (fairB g en spW A) (groupsI g)).length) : GoodP g en spW A (firstF (fairB g en spW A) (groupsI g)) := by
  rcases firstF_mem (fairB g en spW A) (groupsI g) with e | ⟨h1, h2⟩
  · rw [e] at hl; simp at hl
  · rw [groups_within h hn] at h1 ⊢
    exact row_good h hn h1 (by rw [groups_within h hn] at h2; exact h2)
theorem weak_found {g : Gr} (h : Rt g) (hn : g.S.length ≤ 100000) {en : List (List Bool)} {A : Nat} {p : List Int} (hp : GoodP g en spW A p) : 0 < (firstF (fairB g en spW A) (groupsI g)).length := by
  obtain ⟨r, hr, hs⟩ := part_group h hn hp.inn hp.one
  exact firstF_some hr (weak_more hs hp.fair) (fun x _ hx => cyc_pos (fair_iff.1 hx).1)
/-! strongly -/
theorem pickR_mem {g : Gr} {en : List (List Bool)} {A : Nat} {SUB : List Int → List Int} : ∀ {rows : List (List Int)}, pickR g en A SUB rows = [] ∨ (pickR g en A SUB rows ∈ rows ∧ fairB g en spS A (pickR g en A SUB rows) = true) ∨ ∃ l ∈ rows, pickR g en A SUB rows = SUB l
  | [] => .inl rfl
  | l :: rest => by
    have ih := pickR_mem (g := g) (en := en) (A := A) (SUB := SUB) (rows := rest)
    have hr : ∀ {x}, pickR g en A SUB (l :: rest) = x → pickR g en A SUB rest = x → pickR g en A SUB (l :: rest) = [] ∨ (pickR g en A SUB (l :: rest) ∈ l :: rest ∧ fairB g en spS A (pickR g en A SUB (l :: rest)) = true) ∨ ∃ y ∈ l :: rest, pickR g en A SUB (l :: rest) = SUB y := fun {x} e1 e2 => by
      rw [e1, ← e2]
      rcases ih with h | ⟨h1, h2⟩ | ⟨y, h1, h2⟩
      · exact .inl h
      · exact .inr (.inl ⟨List.mem_cons_of_mem _ h1, h2⟩)
      · exact .inr (.inr ⟨y, List.mem_cons_of_mem _ h1, h2⟩)
    cases hc : cycB g l
    · exact hr (pickR_skip hc) rfl
    · cases hf : fairB g en spS A l
      · by_cases h3 : 0 < (SUB l).length
        · exact .inr (.inr ⟨l, List.mem_cons_self .., pickR_sub hc hf h3⟩)
        · exact hr (pickR_next hc hf h3) rfl
      · rw [pickR_fair hc hf]
        exact .inr (.inl ⟨List.mem_cons_self .., hf⟩)
theorem stR_good {g : Gr} (h : Rt g) (hn : g.S.length ≤ 100000) {en : List (List Bool)} {A : Nat} : ∀ (n : Nat) {l : List Bool}, 0 < (stR g en A n (withinI g l)).length → GoodP g en spS A (stR g en A n (withinI g l))
  | 0, _, hp => by simp [stR] at hp
  | n + 1, l, hp => by
    have e : stR g en A (n + 1) (withinI g l) = pickR g en A (fun l => stR g en A n (withinI g (lessL g en A l))) (withinI g l) := rfl
    rw [e] at hp ⊢
    rcases pickR_mem (g := g) (en := en) (A := A) (SUB := fun l => stR g en A n (withinI g (lessL g en A l))) (rows := withinI g l) with h1 | ⟨h1, h2⟩ | ⟨y, h1, h2⟩
    · rw [h1] at hp; simp at hp
    · exact row_good h hn h1 h2
    · rw [h2] at hp ⊢
      exact stR_good h hn n hp
theorem pickR_some {g : Gr} {en : List (List Bool)} {A : Nat} {SUB : List Int → List Int} {r : List Int} (hc : cycB g r = true) (hs : fairB g en spS A r = false → 0 < (SUB r).length) : ∀ {rows : List (List Int)}, r ∈ rows → 0 < (pickR g en A SUB rows).length
  | [], h => by simp at h
  | l :: rest, h => by
    have ih := fun h' => pickR_some hc hs (rows := rest) h'
    cases hcl : cycB g l
    · rw [pickR_skip hcl]
      rcases List.mem_cons.1 h with rfl | h
      · rw [hc] at hcl; cases hcl
      · exact ih h
    · cases hf : fairB g en spS A l
      · by_cases h3 : 0 < (SUB l).length
        · rw [pickR_sub hcl hf h3]; exact h3
        · rw [pickR_next hcl hf h3]
          rcases List.mem_cons.1 h with rfl | h
          · exact absurd (hs hf) h3
          · exact ih h
      · rw [pickR_fair hcl hf]; exact cyc_pos hcl
theorem stR_found {g : Gr} (h : Rt g) (hn : g.S.length ≤ 100000) {en : List (List Bool)} (hel : en.length = nodesN g) {A : Nat} {p : List Int} (hp : GoodP g en spS A p) :
    ∀ (n : Nat) {rows : List (List Int)} {r : List Int}, r ∈ rows → (∀ x ∈ p, x ∈ r) → InT en r → r.length ≤ n → 0 < (stR g en A n rows).length
  | 0, _, r, _, hs, _, hl => by
    obtain ⟨x, hx⟩ := List.exists_mem_of_length_pos (cyc_pos (fair_iff.1 hp.fair).1)
    have := List.length_pos_of_mem (hs x hx)
    omega
  | n + 1, rows, r, hr, hs, hin, hl => by
    show 0 < (pickR g en A (fun l => stR g en A n (withinI g (lessL g en A l))) rows).length
    have hcr := cyc_more hs (fair_iff.1 hp.fair).1
    refine pickR_some hcr (fun hf => ?_) hr
    have hless : ∀ x ∈ p, ∃ i : Nat, x = (i : Int) ∧ i < nodesN g ∧ (lessL g en A r).getD i false = true := fun x hx => by
      obtain ⟨i, rfl, hi⟩ := hp.inn x hx
      refine ⟨i, rfl, hi, ?_⟩
      unfold lessL
      rw [tab_get _ _ _ _ (by omega)]
      unfold lessP
      rw [Bool.and_eq_true, decide_eq_true_iff]
      refine ⟨hs _ hx, List.all_eq_true.2 fun a ha => ?_⟩
      have ha := List.mem_range.1 ha
      cases hac : actB g r a
      · have hpa := act_more hs hac
        have h1 := (fair_iff.1 hp.fair).2 a ha
        unfold spB at h1
        rw [hpa] at h1
        have h2 : spS (cntN en p a) p.length = false := by simpa using h1
        have h3 := of_decide_eq_false h2
        cases he : (en.getD i []).getD a false
        · rfl
        · exact absurd (pos_cntN hx (by rw [Int.toNat_natCast]; exact he)) h3
      · rfl
    obtain ⟨r', hr', hs'⟩ := part_row h hn hless hp.one
    have hsh := less_shorter hin (unfair_spoilt hcr hf) hr'
    exact stR_found h hn hel hp n hr' hs' (less_in hr') (by omega)
noncomputable def strongL (g : Gr) (en : List (List Bool)) (ag : Int) : List Int := if rtB g en ag = true then stR g en ag.toNat (nodesN g) (groupsI g) else []
/-! some nodes as the bits of a number -/
def nodesL (bits n : Nat) : List Int := ((List.range n).filter (fun i => bits.testBit i)).map (fun k : Nat => (k : Int))
theorem bits_of (P : Nat → Bool) : ∀ n, ∃ bits, bits < 2 ^ n ∧ ∀ i, i < n → bits.testBit i = P i
  | 0 => ⟨0, by simp, fun i h => by omega⟩
  | n + 1 => by
    obtain ⟨b, hb, h⟩ := bits_of P n
    cases hP : P n
    · refine ⟨b, by rw [Nat.pow_succ]; omega, fun i hi => ?_⟩
      by_cases hin : i = n
      · subst hin; rw [hP]; exact Nat.testBit_lt_two_pow hb
      · exact h i (by omega)
    · refine ⟨b ||| 2 ^ n, Nat.or_lt_two_pow (by rw [Nat.pow_succ]; omega) (by rw [Nat.pow_succ]; have := Nat.pow_pos (n := n) (show 0 < 2 by omega); omega), fun i hi => ?_⟩
      rw [Nat.testBit_or, Nat.testBit_two_pow]
      by_cases hin : i = n
      · subst hin; rw [hP, Nat.testBit_lt_two_pow hb]; simp
      · rw [h i (by omega), decide_eq_false (by omega)]; simp
theorem row_bits {g : Gr} (h : Rt g) (hn : g.S.length ≤ 100000) {l : List Bool} {r : List Int} (hr : r ∈ withinI g l) : ∃ bits, 0 < bits ∧ bits < 2 ^ nodesN g ∧ r = nodesL bits (nodesN g) := by
  obtain ⟨j, hj, hin, rfl⟩ := (within_rows h hn).1 hr
  obtain ⟨b, hb, hP⟩ := bits_of (fun k => l.getD k false && decide (partN (keepG g l) k = partN (keepG g l) j)) (nodesN g)
  refine ⟨b, ?_, hb, ?_⟩
  · refine Nat.pos_of_ne_zero fun e => ?_
    have := hP j hj
    rw [e, Nat.zero_testBit, hin] at this
    simp at this
  · unfold rowW nodesL
    congr 1
    exact List.filter_congr fun k hk => (hP k (List.mem_range.1 hk)).symm
theorem nodesL_good {bits n : Nat} : (nodesL bits n).Nodup ∧ ∀ x ∈ nodesL bits n, ∃ i : Nat, x = (i : Int) ∧ i < n := by
  constructor
  · have h : ((List.range n).filter (fun i => bits.testBit i)).Pairwise (· < ·) := List.Pairwise.filter _ List.pairwise_lt_range
    exact List.Pairwise.map (fun k : Nat => (k : Int)) (fun a b hab => by show (a : Int) ≠ (b : Int); omega) h
  · intro x hx
    obtain ⟨i, hi, rfl⟩ := List.mem_map.1 hx
    exact ⟨i, rfl, List.mem_range.1 (List.mem_filter.1 hi).1⟩
end Go.Proofs.Ytnlaonppgebpoaa

namespace Go.Proofs.Ytnlaonppgebpoaa
open Go.RowKit

noncomputable def weakL (g : Gr) (en : List (List Bool)) (ag : Int) : List Int := if rtB g en ag = true then firstF (fairB g en spW ag.toNat) (groupsI g) else []
open Classical in
theorem rtB_rt {g : Gr} {en : List (List Bool)} {ag : Int} (h : rtB g en ag = true) : RT g en ag := of_decide_eq_true h
/-- what a right table gives -/
theorem RT.nat {g : Gr} {en : List (List Bool)} {ag : Int} (h : RT g en ag) : ∃ A : Nat, ag = (A : Int) ∧ A ≤ 100 ∧ ∀ i, i < en.length → (en.getD i []).length = A :=
  ⟨ag.toNat, by have := h.h0; omega, by have := h.h1; have := h.h0; omega, fun i hi => by have := h.rows i hi; have := h.h0; omega⟩

set_option maxRecDepth 100000 in
set_option maxHeartbeats 16000000 in
theorem weak_ok (v u : Value) (g : Gr) (en : List (List Bool)) (ag : Int) (w : World) (h : GraphAt w v g) (hu : BRowsAt w u en) (hn : nodesN g ≤ 100000) :
    Calls Try.prog 54 #[v, u, .int .i64 ag] w (IntsBack w (weakL g en ag)) := by
  obtain ⟨sa, aa, ta, sc, ac, tc, rfl, -⟩ := h.var
  have hb := balloc w (.cells #[.slice sa g.S.length sc, .slice aa g.A.length ac, .slice ta g.T.length tc] 26)
  have HB := Lib.hid hb
  have X0 := Lib.hid (heap_alloc_new w (.cells #[.slice sa g.S.length sc, .slice aa g.A.length ac, .slice ta g.T.length tc] 26))
  have HR := Lib.hid (rt_ok _ u g en ag _ (h.below hb) (hu.below hb))
  cases hr : rtB g en ag
  · have E : weakL g en ag = [] := by unfold weakL; rw [hr]; rfl
    rw [hr] at HR
    rw [E]
    clear h hb hu hr E
    go_enter Try.func54, Try.ntmps54
    go_wp2_with (go_at_call 89; refine HR.out.mono ?_; rintro e w1 ⟨rfl, hb1⟩; have HB1 := Lib.hid (HB.out.trans (hb1.mono HB.out.size)); clear hb1)
    go_ret
    exact ⟨_, rfl, intsAt_nil _, HB1.out⟩
  have hRT := rtB_rt hr
  obtain ⟨A, rfl, hA, hrows⟩ := hRT.nat
  have E : weakL g en (A : Nat) = firstF (fairB g en spW A) (groupsI g) := by unfold weakL; rw [hr, if_pos rfl, Int.toNat_natCast]
  rw [hr] at HR
  rw [E]
  have hlen := hRT.len
  have HI := Lib.hid (fun k (hk : k < (groupsI g).length) => groupsI_row (mem_getD hk))
  have HF := Lib.hid (fun (w' : World) (hb : Below w.heap.size w w') (tv pv : Value) (part : List Int) (ht : TabV (.agg #[.slice sa g.S.length sc, .slice aa g.A.length ac, .slice ta g.T.length tc]) u A tv) (hp : IntsAt w' pv part) (hi : part.length ≤ nodesN g ∧ ∀ x ∈ part, 0 ≤ x ∧ x < (nodesN g : Int)) =>
    fair_ok sp_weak _ u pv tv g en A part w' ht (h.below hb) (hu.below hb) hp hA hrows (fun x hx => by have := hi.2 x hx; omega) (by omega) (by omega) hRT.wf)
  have HG := Lib.hid (fun (w' : World) (hb : Below w.heap.size w w') => groupsF_ok _ g w' (h.below hb) hn)
  have GL := groupsI_len g
  obtain ⟨ua, uc, rfl, -⟩ := hu
  have FA := Lib.hid (fun k hk ha hp => firstF_at (p := fairB g en spW A) (rows := groupsI g) (k := k) hk ha hp)
  have FN := Lib.hid (firstF_none (p := fairB g en spW A) (rows := groupsI g))
  clear h hb hr E hRT hlen hrows
  generalize groupsI g = rows at *
  generalize firstF (fairB g en spW A) rows = RES at *
  generalize fairB g en spW A = FB at *
  go_enter Try.func54, Try.ntmps54
  go_wp2_with (first
    | (go_at_call 89; refine HR.out.mono ?_; rintro e w1 ⟨rfl, hb1⟩; have HB1 := Lib.hid (HB.out.trans (hb1.mono HB.out.size)); have X1 := Lib.hid (bheap hb1 X0.out); clear hb1)
    | (go_at_call 90; refine (mode_weak _).mono ?_; rintro e w2 ⟨rfl, hb2⟩; unfold modeV; have HB2 := Lib.hid (HB1.out.trans (hb2.mono HB1.out.size)); have X2 := Lib.hid (bheap (balloc _ (.cells #[.func (.func 108) #[] #[]] 91)) (bheap hb2 X1.out)); have M2 := Lib.hid (heap_alloc_new w2 (.cells #[.func (.func 108) #[] #[]] 91)); have HB3 := Lib.hid (HB2.out.trans ((balloc w2 (.cells #[.func (.func 108) #[] #[]] 91)).mono HB2.out.size)); have c0 := cell_of_block X2.out 0 _ rfl; have c1 := cell_of_block X2.out 1 _ rfl; have c2 := cell_of_block X2.out 2 _ rfl; clear hb2)
    | (go_at_call 46; refine (HG.out _ HB3.out).mono ?_; rintro e w3 ⟨rv, rfl, hr3, hb3⟩; obtain ⟨ra, rc, rfl, hr3⟩ := hr3; have HRW := Lib.hid hr3; have HB4 := Lib.hid (HB3.out.trans (hb3.mono HB3.out.size)); have X3 := Lib.hid (bheap hb3 X2.out); have M3 := Lib.hid (bheap hb3 M2.out); clear hb3 hr3))
  clear c0 c1 c2
  go_loopg [23] rows.length (fun fu c wr => ∃ k : Nat, k + fu = rows.length ∧ c = .int .i64 k ∧ (∀ j, j < k → FB (rows.getD j []) = false) ∧ Hid (Below w3.heap.size w3 wr))
  case atStart => exact ⟨0, by omega, rfl, fun j hj => by omega, Lib.hid (Below.refl _ _)⟩
  case round =>
    obtain ⟨k, hk, rfl, hall, HBR⟩ := hrel
    have HAL := Lib.hid hall
    clear hall
    by_cases hlt : k < rows.length
    · have z1 : (k : Int) < (rows.length : Int) := by omega
      obtain ⟨b1, o1, pv, rfl, d1, hp⟩ := HRW.out k hlt
      have hi := HI.out k hlt
      have y1 := bkeep HBR.out d1
      have hx := bheap HBR.out X3.out
      have c0 := cell_of_block hx 0 _ rfl
      have c1 := cell_of_block hx 1 _ rfl
      have c2 := cell_of_block hx 2 _ rfl
      have hm := bheap HBR.out M3.out
      have c5 := cell_of_block hm 0 _ rfl
      have HBW := Lib.hid (HB4.out.trans (HBR.out.mono HB4.out.size))
      have HPV := Lib.hid (hp.below HBR.out)
      have HFF := Lib.hid (HF.out wr HBW.out _ pv (rows.getD k []) ⟨_, _, _, rfl, rfl⟩ HPV.out hi)
      have HAT := Lib.hid (FA.out k hlt HAL.out)
      have HNX : Hid (FB (rows.getD k []) = false → ∀ a, a < k + 1 → FB (rows.getD a []) = false) := Lib.hid (fun hne a ha => by
        by_cases e : a = k
        · rw [e]; exact hne
        · exact HAL.out a (by omega))
      unfold modeV at HFF
      clear d1 hx hm hp hi
      generalize rows.getD k [] = part at *
      obtain ⟨pa, pc, rfl, hpp⟩ := HPV.out
      have HPP := Lib.hid hpp
      clear hpp
      cases hf : FB part
      · rw [hf] at HFF
        go_wp2_with (go_at_call 91; refine HFF.out.mono ?_; rintro e w4 ⟨rfl, hb4⟩; have HB5 := Lib.hid (HBR.out.trans (hb4.mono HBR.out.size)); clear hb4)
        go_roundg (rows.length - (k + 1))
        case measure => omega
        case rel => exact ⟨k + 1, by omega, by simp, HNX.out hf, HB5⟩
      · rw [hf] at HFF
        have E := Lib.hid (HAT.out hf)
        go_wp2_with (go_at_call 91; refine HFF.out.mono ?_; rintro e w4 ⟨rfl, hb4⟩; have HB5 := Lib.hid (HBW.out.trans (hb4.mono HBW.out.size)); have HP5 := Lib.hid (HPV.out.below hb4); clear hb4)
        go_ret
        exact ⟨_, rfl, by rw [E.out]; exact HP5.out, HB5.out⟩
    · obtain rfl : k = rows.length := by omega
      have E := Lib.hid (FN.out HAL.out)
      go_wp2_with fail
      go_ret
      exact ⟨_, rfl, by rw [E.out]; exact intsAt_nil _, HB4.out.trans (HBR.out.mono HB4.out.size)⟩
set_option maxRecDepth 100000 in
set_option maxHeartbeats 16000000 in
theorem rweak_ok (v u : Value) (g : Gr) (en : List (List Bool)) (ag : Int) (w : World) (h : GraphAt w v g) (hu : BRowsAt w u en) (hn : nodesN g ≤ 100000) :
    Calls Try.prog 55 #[v, u, .int .i64 ag] w (IntsBack w (weakL g en ag)) := by
  obtain ⟨sa, aa, ta, sc, ac, tc, rfl, -⟩ := h.var
  have hb := balloc w (.cells #[.slice sa g.S.length sc, .slice aa g.A.length ac, .slice ta g.T.length tc] 26)
  have HB := Lib.hid hb
  have X0 := Lib.hid (heap_alloc_new w (.cells #[.slice sa g.S.length sc, .slice aa g.A.length ac, .slice ta g.T.length tc] 26))
  have HR := Lib.hid (rrt_ok _ u g en ag _ (h.below hb) (hu.below hb))
  cases hr : rtB g en ag
  · have E : weakL g en ag = [] := by unfold weakL; rw [hr]; rfl
    rw [hr] at HR
    rw [E]
    clear h hb hu hr E
    go_enter Try.func55, Try.ntmps55
    go_wp2_with (go_at_call 60; refine HR.out.mono ?_; rintro e w1 ⟨rfl, hb1⟩; have HB1 := Lib.hid (HB.out.trans (hb1.mono HB.out.size)); clear hb1)
    go_ret
    exact ⟨_, rfl, intsAt_nil _, HB1.out⟩
  have hRT := rtB_rt hr
  obtain ⟨A, rfl, hA, hrows⟩ := hRT.nat
  have E : weakL g en (A : Nat) = firstF (fairB g en spW A) (groupsI g) := by unfold weakL; rw [hr, if_pos rfl, Int.toNat_natCast]
  rw [hr] at HR
  rw [E]
  have hlen := hRT.len
  have HI := Lib.hid (fun k (hk : k < (groupsI g).length) => groupsI_row (mem_getD hk))
  have HF := Lib.hid (fun (w' : World) (hb : Below w.heap.size w w') (pv : Value) (part : List Int) (hp : IntsAt w' pv part) (hi : part.length ≤ nodesN g ∧ ∀ x ∈ part, 0 ≤ x ∧ x < (nodesN g : Int)) =>
    rfair_weak _ u pv g en A part w' (h.below hb) (hu.below hb) hp hA hrows (fun x hx => by have := hi.2 x hx; omega) (by omega) (by omega))
  have HG := Lib.hid (fun (w' : World) (hb : Below w.heap.size w w') => rgroupsF_ok _ g w' (h.below hb) hn)
  have GL := groupsI_len g
  obtain ⟨ua, uc, rfl, -⟩ := hu
  have FA := Lib.hid (fun k hk ha hp => firstF_at (p := fairB g en spW A) (rows := groupsI g) (k := k) hk ha hp)
  have FN := Lib.hid (firstF_none (p := fairB g en spW A) (rows := groupsI g))
  rw [← groups_eq] at HG
  clear h hb hr E hRT hlen hrows
  generalize groupsI g = rows at *
  generalize firstF (fairB g en spW A) rows = RES at *
  generalize fairB g en spW A = FB at *
  go_enter Try.func55, Try.ntmps55
  go_wp2_with (first
    | (go_at_call 60; refine HR.out.mono ?_; rintro e w1 ⟨rfl, hb1⟩; have HB1 := Lib.hid (HB.out.trans (hb1.mono HB.out.size)); have X1 := Lib.hid (bheap hb1 X0.out); have c0 := cell_of_block X1.out 0 _ rfl; have c1 := cell_of_block X1.out 1 _ rfl; have c2 := cell_of_block X1.out 2 _ rfl; clear hb1)
    | (go_at_call 47; refine (HG.out _ HB1.out).mono ?_; rintro e w3 ⟨rv, rfl, hr3, hb3⟩; obtain ⟨ra, rc, rfl, hr3⟩ := hr3; have HRW := Lib.hid hr3; have HB4 := Lib.hid (HB1.out.trans (hb3.mono HB1.out.size)); have X3 := Lib.hid (bheap hb3 X1.out); clear hb3 hr3))
  clear c0 c1 c2
  go_loopg [8] rows.length (fun fu c wr => ∃ k : Nat, k + fu = rows.length ∧ c = .int .i64 k ∧ (∀ j, j < k → FB (rows.getD j []) = false) ∧ Hid (Below w3.heap.size w3 wr))
  case atStart => exact ⟨0, by omega, rfl, fun j hj => by omega, Lib.hid (Below.refl _ _)⟩
  case round =>
    obtain ⟨k, hk, rfl, hall, HBR⟩ := hrel
    have HAL := Lib.hid hall
    clear hall
    by_cases hlt : k < rows.length
    · have z1 : (k : Int) < (rows.length : Int) := by omega
      obtain ⟨b1, o1, pv, rfl, d1, hp⟩ := HRW.out k hlt
      have hi := HI.out k hlt
      have y1 := bkeep HBR.out d1
      have hx := bheap HBR.out X3.out
      have c0 := cell_of_block hx 0 _ rfl
      have c1 := cell_of_block hx 1 _ rfl
      have c2 := cell_of_block hx 2 _ rfl
      have HBW := Lib.hid (HB4.out.trans (HBR.out.mono HB4.out.size))
      have HPV := Lib.hid (hp.below HBR.out)
      have HFF := Lib.hid (fun (i : Sub wr) => HF.out i.1 (HBW.out.trans (i.2.mono HBW.out.size)) pv (rows.getD k []) (HPV.out.below i.2) hi)
      have HAT := Lib.hid (FA.out k hlt HAL.out)
      have HNX : Hid (FB (rows.getD k []) = false → ∀ a, a < k + 1 → FB (rows.getD a []) = false) := Lib.hid (fun hne a ha => by
        by_cases e : a = k
        · rw [e]; exact hne
        · exact HAL.out a (by omega))
      clear d1 hx hp hi
      generalize rows.getD k [] = part at *
      obtain ⟨pa, pc, rfl, hpp⟩ := HPV.out
      have HPP := Lib.hid hpp
      clear hpp
      have f0 : ∀ i : Sub wr, i.1.cell? ⟨w.heap.size, 0, none⟩ = some (.slice sa g.S.length sc) := fun i => i.cell c0
      have f1 : ∀ i : Sub wr, i.1.cell? ⟨w.heap.size, 1, none⟩ = some (.slice aa g.A.length ac) := fun i => i.cell c1
      have f2 : ∀ i : Sub wr, i.1.cell? ⟨w.heap.size, 2, none⟩ = some (.slice ta g.T.length tc) := fun i => i.cell c2
      have f3 : ∀ i : Sub wr, i.1.cell? ⟨b1, o1 + k, none⟩ = some (.slice pa part.length pc) := fun i => i.cell y1
      cases hf : FB part
      · rw [hf] at HFF
        go_wp2_with fail
        refine region_below (by kernel_rfl) (by kernel_rfl) ?_
        repeat (go_big_quiet_step ((go_at_call 92; exact Calls.sub_of (HFF.out _))))
        refine wpQuiet_nil ?_
        intro w4 hb4
        have HB5 := Lib.hid (HBR.out.trans (hb4.mono HBR.out.size))
        clear hb4
        go_wp2_with fail
        go_roundg (rows.length - (k + 1))
        case measure => omega
        case rel => exact ⟨k + 1, by omega, by simp, HNX.out hf, HB5⟩
      · rw [hf] at HFF
        have E := Lib.hid (HAT.out hf)
        go_wp2_with fail
        refine region_below (by kernel_rfl) (by kernel_rfl) ?_
        repeat (go_big_quiet_step ((go_at_call 92; exact Calls.sub_of (HFF.out _))))
        refine wpQuiet_nil ?_
        intro w4 hb4
        have HB5 := Lib.hid (HBW.out.trans (hb4.mono HBW.out.size))
        have HP5 := Lib.hid (HPV.out.below hb4)
        have y4 := bkeep hb4 y1
        clear hb4
        go_wp2_with fail
        go_ret
        exact ⟨_, rfl, by rw [E.out]; exact HP5.out, HB5.out⟩
    · obtain rfl : k = rows.length := by omega
      have E := Lib.hid (FN.out HAL.out)
      go_wp2_with fail
      go_ret
      exact ⟨_, rfl, by rw [E.out]; exact intsAt_nil _, HB4.out.trans (HBR.out.mono HB4.out.size)⟩
end Go.Proofs.Ytnlaonppgebpoaa

namespace Go.Proofs.Ytnlaonppgebpoaa
open Go.RowKit

def wiP (en : List (List Bool)) (sps : List Int) (x : Nat) : Bool := sps.all (fun a => !(en.getD x []).getD a.toNat false)
def wiT (en : List (List Bool)) (part sps : List Int) (k : Nat) (x : Nat) : Bool := decide ((x : Int) ∈ part.take k) && wiP en sps x
def wiL (en : List (List Bool)) (part sps : List Int) : List Bool := tab en.length (wiT en part sps part.length)
theorem take_snoc {l : List Int} {k : Nat} (h : k < l.length) : l.take (k + 1) = l.take k ++ [l.getD k 0] := by
  rw [List.take_add_one, List.getD_eq_getElem?_getD, List.getElem?_eq_getElem h]; rfl
theorem wiT_end {en : List (List Bool)} {part sps : List Int} {k q : Nat} (h : k < part.length) (hq : part.getD k 0 = (q : Int)) (x : Nat) : upd (wiT en part sps k) q (wiP en sps q) x = wiT en part sps (k + 1) x := by
  unfold wiT
  rw [take_snoc h, hq]
  by_cases e : x = q
  · rw [e, upd_same]; simp
  · rw [upd_other _ _ _ _ e]
    have : ((x : Int) ∈ part.take k) ↔ ((x : Int) ∈ part.take k ++ [(q : Int)]) := by
      rw [List.mem_append, List.mem_singleton]
      exact ⟨.inl, fun h => h.elim id (fun h => absurd (by omega) e)⟩
    rw [decide_same this]
theorem wi_step {en : List (List Bool)} {sps : List Int} {q j : Nat} (h : j < sps.length) : wiP en (sps.take (j + 1)) q = (wiP en (sps.take j) q && !(en.getD q []).getD (sps.getD j 0).toNat false) := by
  unfold wiP
  rw [take_snoc h, List.all_append]
  simp
theorem upd_upd (f : Nat → Bool) (q : Nat) (a b : Bool) : upd (upd f q a) q b = upd f q b := by
  funext x
  by_cases e : x = q
  · rw [e, upd_same, upd_same]
  · rw [upd_other _ _ _ _ e, upd_other _ _ _ _ e, upd_other _ _ _ _ e]
theorem tab_false (n : Nat) : tab n (fun _ => false) = List.replicate n false := by unfold tab; simp [List.map_const']
/-- the rows that are taken away are those of 'less' -/
theorem wi_less {g : Gr} {en : List (List Bool)} {A : Nat} {part : List Int} : wiL en part (spK g en spS part A) = lessL g en A part := by
  unfold wiL lessL
  refine tab_same fun x _ => ?_
  unfold wiT lessP
  rw [List.take_length]
  by_cases hx : (x : Int) ∈ part
  · rw [decide_eq_true hx, Bool.true_and, Bool.true_and]
    have key : wiP en (spK g en spS part A) x = true ↔ (List.range A).all (fun a => actB g part a || !(en.getD x []).getD a false) = true := by
      unfold wiP spK
      rw [List.all_eq_true, List.all_eq_true]
      constructor
      · intro h a ha
        have haA := List.mem_range.1 ha
        cases hac : actB g part a
        · cases he : (en.getD x []).getD a false
          · rfl
          · have hp : 0 < cntN en part a := pos_cntN hx (by rw [Int.toNat_natCast]; exact he)
            have := h (a : Int) (List.mem_map.2 ⟨a, List.mem_filter.2 ⟨ha, by unfold spB spS; rw [hac, decide_eq_true hp]; rfl⟩, rfl⟩)
            rw [Int.toNat_natCast, he] at this
            cases this
        · rfl
      · intro h a ha
        obtain ⟨a', ha', rfl⟩ := List.mem_map.1 ha
        obtain ⟨h1, h2⟩ := List.mem_filter.1 ha'
        have h3 := h a' h1
        unfold spB at h2
        rw [Bool.and_eq_true] at h2
        have h4 : actB g part a' = false := by simpa using h2.1
        rw [h4] at h3
        rw [Int.toNat_natCast]
        simpa using h3
    cases h1 : wiP en (spK g en spS part A) x
    · cases h2 : (List.range A).all (fun a => actB g part a || !(en.getD x []).getD a false)
      · rfl
      · rw [key.2 h2] at h1; cases h1
    · exact (key.1 h1).symm
  · rw [decide_eq_false hx]; rfl

/-- its memory: the boxed parameter, the row of its own -/
structure WoM (w wr : World) (tc : Array Value) (ty : TypeId) (l : List Bool) : Prop where
  below : Below w.heap.size w wr
  vt : wr.heap[w.heap.size]? = some (.cells tc ty (0, 0))
  blk : wr.heap[w.heap.size + 1]? = some (.cells (bools l) 4 (0, 0))
section
variable {w wr : World} {tc : Array Value} {ty : TypeId} {l : List Bool}
theorem WoM.set (h : WoM w wr tc ty l) (q : Nat) (b : Bool) : WoM w (wr.setCell ⟨w.heap.size + 1, q, none⟩ (.bool b)) tc ty (l.set q b) := by
  refine ⟨h.below.setCell (p := ⟨w.heap.size + 1, q, none⟩) (Nat.le_succ _) _, ?_, ?_⟩
  · rw [Below.heap_setCell _ _ _ _ (by simp)]; exact h.vt
  · rw [heap_setCell_block h.blk, bools_set]
theorem WoM.cell (h : WoM w wr tc ty l) {q : Nat} (hq : q < l.length) : wr.cell? ⟨w.heap.size + 1, q, none⟩ = some (.bool (l.getD q false)) := cell_of_block h.blk q _ (bools_get _ q hq)
theorem WoM.free (h : WoM w wr tc ty l) (q : Nat) : wr.frozen? ⟨w.heap.size + 1, q, none⟩ = false := free_of_block h.blk q
theorem WoM.same (h : WoM w wr tc ty l) {l' : List Bool} (e : l = l') : WoM w wr tc ty l' := e ▸ h
end
set_option maxRecDepth 100000 in
set_option maxHeartbeats 16000000 in
theorem without_ok (v u pv sv tv : Value) (en : List (List Bool)) (A : Nat) (part sps : List Int) (w : World) (ht : TabV v u A tv) (hu : BRowsAt w u en) (hp : IntsAt w pv part) (hs : IntsAt w sv sps)
    (hrows : ∀ i, i < en.length → (en.getD i []).length = A) (hin : ∀ x ∈ part, 0 ≤ x ∧ x < (en.length : Int)) (hsp : ∀ x ∈ sps, 0 ≤ x ∧ x < (A : Int)) (hel : en.length ≤ 1000000) (hl : part.length ≤ 1000000) (hsl : sps.length ≤ 1000000) :
    Calls Try.prog 95 #[tv, pv, sv] w (BoolsBack w (wiL en part sps)) := by
  obtain ⟨ua, uc, rfl, hrow⟩ := hu
  obtain ⟨s0, a0, t0, rfl, rfl⟩ := ht
  obtain ⟨o, ho⟩ : ∃ o : Obj, (Obj.cells #[s0, a0, t0, .slice ua en.length uc, .int .i64 (A : Nat)] 95) = o := ⟨_, rfl⟩
  have HB := Lib.hid (balloc w o)
  have X0 := Lib.hid (heap_alloc_new w o)
  rw [← ho] at HB X0
  clear ho
  have HRW := Lib.hid hrow
  have HRL := Lib.hid hrows
  have HIN := Lib.hid (fun k (hk : k < part.length) => hin _ (getD_mem hk))
  have HSP := Lib.hid (fun k (hk : k < sps.length) => hsp _ (getD_mem hk))
  have WS := Lib.hid (fun q j (hj : j < sps.length) => wi_step (en := en) (q := q) hj)
  have WE := Lib.hid (fun k (q : Nat) (hk : k < part.length) (hq : part.getD k 0 = (q : Int)) => wiT_end (en := en) (sps := sps) hk hq)
  have W0 : Hid (∀ q, wiP en (sps.take 0) q = true) := Lib.hid (fun q => by unfold wiP; simp)
  have WN : Hid (∀ q, wiP en (sps.take sps.length) q = wiP en sps q) := Lib.hid (fun q => by rw [List.take_length])
  have T0 : Hid (tab en.length (wiT en part sps 0) = List.replicate en.length false) := Lib.hid (by
    rw [← tab_false]
    exact tab_same fun x _ => by unfold wiT; simp)
  unfold wiL
  obtain ⟨pa, pc, rfl, hpc⟩ := hp
  have HP := Lib.hid hpc
  obtain ⟨qa, qc, rfl, hqc⟩ := hs
  have HS := Lib.hid hqc
  clear hin hrow hrows hpc hqc hsp
  obtain ⟨AT, hAT⟩ : ∃ f : Nat → Nat → Bool, ∀ j q, f j q = wiP en (sps.take j) q := ⟨fun j q => wiP en (sps.take j) q, fun _ _ => rfl⟩
  simp only [← hAT] at WS W0 WN
  clear hAT
  generalize wiT en part sps = WT at *
  generalize wiP en sps = WP at *
  obtain ⟨n, hnn⟩ : ∃ n, part.length = n := ⟨_, rfl⟩
  rw [hnn] at HP hl HIN WE ⊢
  obtain ⟨m, hmm⟩ : ∃ m, sps.length = m := ⟨_, rfl⟩
  rw [hmm] at HS hsl HSP WS WN ⊢
  clear hnn hmm
  obtain ⟨N, hN⟩ : ∃ N, en.length = N := ⟨_, rfl⟩
  rw [hN] at HB X0 HRW HRL HIN T0 hel ⊢
  clear hN
  have c3 := cell_of_block X0.out 3 _ rfl
  go_enter Try.func95, Try.ntmps95
  go_wp2_with (at_make; refine wpList_make_one _ rfl (.tmp 14) (.tmp 14) 33 rfl 4 (.bool false) rfl 1 Try.underlying33 Try.info4 .i64 .i64 (N : Nat) (N : Nat) N rfl rfl rfl rfl (by omega) (by unfold maxLen; omega) ?_; intro w3 hh3 hb3 hlt3; have M0 := Lib.hid (show WoM w w3 _ 95 (tab N (WT 0)) from ⟨HB.out.trans (hb3.mono HB.out.size), bheap hb3 X0.out, by rw [T0.out, bools_replicate]; simpa using hh3⟩); clear hb3 hh3 hlt3)
  clear c3 HB X0
  go_loopg [18] n (fun fu c wr => ∃ k : Nat, k + fu = n ∧ c = .int .i64 k ∧ Hid (WoM w wr #[s0, a0, t0, .slice ua N uc, .int .i64 (A : Nat)] 95 (tab N (WT k))))
  case atStart => exact ⟨0, by omega, rfl, M0⟩
  case round =>
    clear M0
    obtain ⟨k, hk, rfl, HM⟩ := hrel
    by_cases hlt : k < n
    · have z1 : (k : Int) < (n : Int) := by omega
      obtain ⟨b1, o1, rfl, d1⟩ := HP.out k hlt
      have hi := HIN.out k hlt
      have HWE := Lib.hid (WE.out k (part.getD k 0).toNat hlt (by omega))
      have y1 := bkeep HM.out.below d1
      clear d1
      generalize part.getD k 0 = p at *
      obtain ⟨q, rfl⟩ : ∃ q : Nat, p = (q : Int) := ⟨p.toNat, by omega⟩
      rw [Int.toNat_natCast] at HWE
      have hq : q < N := by omega
      have z3 : (q : Int) < (N : Int) := by omega
      have y2 := HM.out.cell (q := q) (by rw [tab_len]; exact hq)
      have f2 := HM.out.free q
      have HM1 := Lib.hid ((HM.out.set q true).same (l' := tab N (upd (WT k) q (AT 0 q))) (by rw [tab_upd, W0.out]))
      obtain ⟨b2, o2, uu, rfl, c2, r2⟩ := HRW.out q hq
      have hrl := HRL.out q hq
      obtain ⟨ra, rc, rfl, r2⟩ := r2
      rw [hrl] at r2 c2
      have HROW := Lib.hid r2
      have HC2 := Lib.hid c2
      clear c2 r2 hi hrl
      generalize (tab N (WT k)).getD q false = vb at *
      go_wp2_with fail
      clear y1 y2 f2
      go_loopg [27] m (fun fu c wr => ∃ j : Nat, j + fu = m ∧ c = .int .i64 j ∧ Hid (WoM w wr #[s0, a0, t0, .slice (some ⟨b2, o2, none⟩) N uc, .int .i64 (A : Nat)] 95 (tab N (upd (WT k) q (AT j q)))))
      case atStart => exact ⟨0, by omega, rfl, HM1⟩
      case round =>
        clear HM1 HM
        obtain ⟨j, hj, rfl, HM⟩ := hrel
        by_cases hlt2 : j < m
        · have z2 : (j : Int) < (m : Int) := by omega
          obtain ⟨b4, o4, rfl, d4⟩ := HS.out j hlt2
          have hi := HSP.out j hlt2
          have hws := WS.out q j hlt2
          have y1 := bkeep HM.out.below d4
          clear d4
          generalize sps.getD j 0 = p at *
          obtain ⟨a, rfl⟩ : ∃ a : Nat, p = (a : Int) := ⟨p.toNat, by omega⟩
          rw [Int.toNat_natCast] at hws
          have ha : a < A := by omega
          have z4 : (a : Int) < (A : Int) := by omega
          obtain ⟨b5, o5, rfl, d5⟩ := HROW.out a ha
          have y5 := bkeep HM.out.below d5
          have y6 := bkeep HM.out.below HC2.out
          have c3 := cell_of_block HM.out.vt 3 _ rfl
          have y2 := HM.out.cell (q := q) (by rw [tab_len]; exact hq)
          rw [tab_get _ _ _ _ hq, upd_same] at y2
          have f2 := HM.out.free q
          have HX : ∀ b, Hid (WoM w (wr.setCell ⟨w.heap.size + 1, q, none⟩ (.bool b)) #[s0, a0, t0, .slice (some ⟨b2, o2, none⟩) N uc, .int .i64 (A : Nat)] 95 (tab N (upd (WT k) q b))) := fun b => Lib.hid ((HM.out.set q b).same (by rw [tab_upd, upd_upd]))
          have HWS := Lib.hid hws
          clear d5 hws
          generalize (en.getD q []).getD a false = eb at *
          cases hb : AT j q
          · have HX2 := HX false
            rw [hb] at y2 HWS
            have E : Hid (AT (j + 1) q = false) := Lib.hid (by rw [HWS.out]; rfl)
            go_wp2_with fail
            go_roundg (m - (j + 1))
            case measure => omega
            case rel => exact ⟨j + 1, by omega, by simp, Lib.hid (by rw [E.out]; exact HX2.out)⟩
          · rw [hb] at y2 HWS
            cases eb
            · have HX2 := HX true
              have E : Hid (AT (j + 1) q = true) := Lib.hid (by rw [HWS.out]; rfl)
              go_wp2_with fail
              go_roundg (m - (j + 1))
              case measure => omega
              case rel => exact ⟨j + 1, by omega, by simp, Lib.hid (by rw [E.out]; exact HX2.out)⟩
            · have HX2 := HX false
              have E : Hid (AT (j + 1) q = false) := Lib.hid (by rw [HWS.out]; rfl)
              go_wp2_with fail
              go_roundg (m - (j + 1))
              case measure => omega
              case rel => exact ⟨j + 1, by omega, by simp, Lib.hid (by rw [E.out]; exact HX2.out)⟩
        · obtain rfl : j = m := by omega
          have HM2 := Lib.hid (HM.out.same (l' := tab N (WT (k + 1))) (tab_same fun x _ => by rw [WN.out]; exact HWE.out x))
          go_wp2_with fail
          go_roundg (n - (k + 1))
          case measure => omega
          case rel => exact ⟨k + 1, by omega, by simp, HM2⟩
    · obtain rfl : k = n := by omega
      go_wp2_with fail
      go_ret
      exact ⟨_, rfl, boolsAt_block (n := N) HM.out.blk (by rw [tab_len]) N, HM.out.below⟩
/-- what 'less' has, of the first a agents -/
def leT (g : Gr) (en : List (List Bool)) (part : List Int) (a : Nat) (x : Nat) : Bool := decide ((x : Int) ∈ part) && (List.range a).all (fun a => actB g part a || !(en.getD x []).getD a false)
/-- .. and of the first j nodes for agent a -/
def leJ (g : Gr) (en : List (List Bool)) (part : List Int) (a j : Nat) (x : Nat) : Bool := leT g en part a x && !(decide ((x : Int) ∈ part.take j) && (en.getD x []).getD a false)
theorem leT_act {g : Gr} {en : List (List Bool)} {part : List Int} {a : Nat} (h : actB g part a = true) (x : Nat) : leT g en part a x = leT g en part (a + 1) x := by
  unfold leT
  rw [List.range_succ, List.all_append]
  simp [h]
theorem leJ_end {g : Gr} {en : List (List Bool)} {part : List Int} {a : Nat} (h : actB g part a = false) (x : Nat) : leJ g en part a part.length x = leT g en part (a + 1) x := by
  unfold leJ leT
  rw [List.range_succ, List.all_append, List.take_length]
  by_cases hx : (x : Int) ∈ part
  · simp [h, hx]
  · simp [hx]
theorem leJ_zero {g : Gr} {en : List (List Bool)} {part : List Int} {a : Nat} (x : Nat) : leT g en part a x = leJ g en part a 0 x := by
  unfold leJ; simp
theorem leJ_yes {g : Gr} {en : List (List Bool)} {part : List Int} {a j q : Nat} (hj : j < part.length) (hq : part.getD j 0 = (q : Int)) (he : (en.getD q []).getD a false = true) (x : Nat) : upd (leJ g en part a j) q false x = leJ g en part a (j + 1) x := by
  unfold leJ
  rw [take_snoc hj, hq]
  by_cases e : x = q
  · rw [e, upd_same, he]; simp
  · rw [upd_other _ _ _ _ e]
    have : ((x : Int) ∈ part.take j) ↔ ((x : Int) ∈ part.take j ++ [(q : Int)]) := by
      rw [List.mem_append, List.mem_singleton]
      exact ⟨.inl, fun h => h.elim id (fun h => absurd (by omega) e)⟩
    rw [decide_same this]
theorem leJ_no {g : Gr} {en : List (List Bool)} {part : List Int} {a j q : Nat} (hj : j < part.length) (hq : part.getD j 0 = (q : Int)) (he : (en.getD q []).getD a false = false) (x : Nat) : leJ g en part a j x = leJ g en part a (j + 1) x := by
  unfold leJ
  rw [take_snoc hj, hq]
  by_cases e : x = q
  · rw [e, he]; simp
  · have : ((x : Int) ∈ part.take j) ↔ ((x : Int) ∈ part.take j ++ [(q : Int)]) := by
      rw [List.mem_append, List.mem_singleton]
      exact ⟨.inl, fun h => h.elim id (fun h => absurd (by omega) e)⟩
    rw [decide_same this]
def inT (part : List Int) (k : Nat) (x : Nat) : Bool := decide ((x : Int) ∈ part.take k)
theorem inT_step {part : List Int} {k q : Nat} (hk : k < part.length) (hq : part.getD k 0 = (q : Int)) (x : Nat) : upd (inT part k) q true x = inT part (k + 1) x := by
  unfold inT
  rw [take_snoc hk, hq]
  by_cases e : x = q
  · rw [e, upd_same]; simp
  · rw [upd_other _ _ _ _ e]
    have : ((x : Int) ∈ part.take k) ↔ ((x : Int) ∈ part.take k ++ [(q : Int)]) := by
      rw [List.mem_append, List.mem_singleton]
      exact ⟨.inl, fun h => h.elim id (fun h => absurd (by omega) e)⟩
    rw [decide_same this]

set_option maxRecDepth 100000 in
set_option maxHeartbeats 16000000 in
theorem less_ok (v u pv : Value) (g : Gr) (en : List (List Bool)) (A : Nat) (part : List Int) (w : World) (h : GraphAt w v g) (hu : BRowsAt w u en) (hp : IntsAt w pv part) (hA : A ≤ 100)
    (hrows : ∀ i, i < en.length → (en.getD i []).length = A) (hin : ∀ x ∈ part, 0 ≤ x ∧ x < (en.length : Int)) (hel : en.length ≤ 1000000) (hl : part.length ≤ 1000000) :
    Calls Try.prog 111 #[v, u, .int .i64 (A : Nat), pv] w (BoolsBack w (lessL g en A part)) := by
  obtain ⟨sa, aa, ta, sc, ac, tc, rfl, -⟩ := h.var
  have hb := balloc w (.cells #[.slice sa g.S.length sc, .slice aa g.A.length ac, .slice ta g.T.length tc] 26)
  have HX := Lib.hid (fun (w' : World) (hb : Below w.heap.size w w') (k : Nat) => racts_ok _ pv g part (k : Int) w' (h.below hb) (hp.below hb) hl)
  have HB := Lib.hid hb
  have X0 := Lib.hid (heap_alloc_new w (.cells #[.slice sa g.S.length sc, .slice aa g.A.length ac, .slice ta g.T.length tc] 26))
  obtain ⟨ua, uc, rfl, hrow⟩ := hu
  have HRW := Lib.hid hrow
  have HRL := Lib.hid hrows
  have HIN := Lib.hid (fun k (hk : k < part.length) => hin _ (getD_mem hk))
  have IS := Lib.hid (fun k (q : Nat) (hk : k < part.length) (hq : part.getD k 0 = (q : Int)) => inT_step hk hq)
  have I0 : Hid (tab en.length (inT part 0) = List.replicate en.length false) := Lib.hid (by
    rw [← tab_false]
    exact tab_same fun x _ => by unfold inT; simp)
  have IE : Hid (∀ x, inT part part.length x = leT g en part 0 x) := Lib.hid (fun x => by unfold inT leT; rw [List.take_length]; simp)
  have LA := Lib.hid (fun (a : Nat) x (h : actB g part a = true) => leT_act (en := en) h x)
  have LE := Lib.hid (fun (a : Nat) x (h : actB g part a = false) => leJ_end (en := en) h x)
  have LZ := Lib.hid (fun a x => leJ_zero (g := g) (en := en) (part := part) (a := a) x)
  have LY := Lib.hid (fun a j (q : Nat) (hj : j < part.length) (hq : part.getD j 0 = (q : Int)) (he : (en.getD q []).getD a false = true) x => leJ_yes (g := g) hj hq he x)
  have LN := Lib.hid (fun a j (q : Nat) (hj : j < part.length) (hq : part.getD j 0 = (q : Int)) (he : (en.getD q []).getD a false = false) x => leJ_no (g := g) hj hq he x)
  have EL : lessL g en A part = tab en.length (leT g en part A) := rfl
  rw [EL]
  obtain ⟨pa, pc, rfl, hpc⟩ := hp
  have HP := Lib.hid hpc
  clear h hb hin hrow hrows hpc EL
  generalize leT g en part = LT at *
  generalize leJ g en part = LJ at *
  generalize inT part = IT at *
  generalize actB g part = AF at *
  obtain ⟨n, hnn⟩ : ∃ n, part.length = n := ⟨_, rfl⟩
  rw [hnn] at HP hl HIN IS IE LE LY LN HX ⊢
  clear hnn
  obtain ⟨N, hN⟩ : ∃ N, en.length = N := ⟨_, rfl⟩
  rw [hN] at HRW HRL HIN I0 hel ⊢
  clear hN
  go_enter Try.func111, Try.ntmps111
  go_wp2_with (at_make; refine wpList_make_one _ rfl (.tmp 14) (.tmp 14) 33 rfl 4 (.bool false) rfl 1 Try.underlying33 Try.info4 .i64 .i64 (N : Nat) (N : Nat) N rfl rfl rfl rfl (by omega) (by unfold maxLen; omega) ?_; intro w3 hh3 hb3 hlt3; have M0 := Lib.hid (show WoM w w3 _ 26 (tab N (IT 0)) from ⟨HB.out.trans (hb3.mono HB.out.size), bheap hb3 X0.out, by rw [I0.out, bools_replicate]; simpa using hh3⟩); clear hb3 hh3 hlt3)
  clear HB X0
  go_loopg [10] n (fun fu c wr => ∃ k : Nat, k + fu = n ∧ c = .int .i64 k ∧ Hid (WoM w wr #[.slice sa g.S.length sc, .slice aa g.A.length ac, .slice ta g.T.length tc] 26 (tab N (IT k))))
  case atStart => exact ⟨0, by omega, rfl, M0⟩
  case round =>
    clear M0
    obtain ⟨k, hk, rfl, HM⟩ := hrel
    by_cases hlt : k < n
    · have z1 : (k : Int) < (n : Int) := by omega
      obtain ⟨b1, o1, rfl, d1⟩ := HP.out k hlt
      have hi := HIN.out k hlt
      have HIS := Lib.hid (IS.out k (part.getD k 0).toNat hlt (by omega))
      have y1 := bkeep HM.out.below d1
      clear d1
      generalize part.getD k 0 = p at *
      obtain ⟨q, rfl⟩ : ∃ q : Nat, p = (q : Int) := ⟨p.toNat, by omega⟩
      rw [Int.toNat_natCast] at HIS
      have hq : q < N := by omega
      have z3 : (q : Int) < (N : Int) := by omega
      have y2 := HM.out.cell (q := q) (by rw [tab_len]; exact hq)
      have f2 := HM.out.free q
      have HM1 := Lib.hid ((HM.out.set q true).same (l' := tab N (IT (k + 1))) (by rw [tab_upd]; exact tab_same fun x _ => HIS.out x))
      generalize (tab N (IT k)).getD q false = vb at *
      go_wp2_with fail
      go_roundg (n - (k + 1))
      case measure => omega
      case rel => exact ⟨k + 1, by omega, by simp, HM1⟩
    · obtain rfl : k = n := by omega
      have HM0 := Lib.hid (HM.out.same (l' := tab N (LT 0)) (tab_same fun x _ => IE.out x))
      obtain ⟨W, rfl⟩ : ∃ z : World, z = wr := ⟨_, rfl⟩
      go_wp2_with fail
      clear HM
      go_loopg [11] A (fun fu c wr => ∃ a : Nat, a + fu = A ∧ c = .int .i64 a ∧ Hid (WoM w wr #[.slice sa g.S.length sc, .slice aa g.A.length ac, .slice ta g.T.length tc] 26 (tab N (LT a))))
      case atStart => exact ⟨0, by omega, rfl, HM0⟩
      case round =>
        clear HM0
        obtain ⟨a, hA1, rfl, HM⟩ := hrel
        by_cases hlt2 : a < A
        · have z2 : (a : Int) < (A : Int) := by omega
          have HXX := Lib.hid (HX.out wr HM.out.below a)
          have c0 := cell_of_block HM.out.vt 0 _ rfl
          have c1 := cell_of_block HM.out.vt 1 _ rfl
          have c2 := cell_of_block HM.out.vt 2 _ rfl
          cases hac : AF (a : Int)
          · rw [hac] at HXX
            have HE := Lib.hid (fun x => LE.out a x hac)
            clear hac
            go_wp2_with (go_at_call 64; refine HXX.out.mono ?_; rintro e w4 ⟨rfl, hb4⟩; have HM4 := Lib.hid (show WoM w w4 #[.slice sa g.S.length sc, .slice aa g.A.length ac, .slice ta g.T.length tc] 26 (tab N (LJ a 0)) from ⟨HM.out.below.trans (hb4.mono HM.out.below.size), bheap hb4 HM.out.vt, by rw [← show tab N (LT a) = tab N (LJ a 0) from tab_same fun x _ => LZ.out a x]; exact bheap hb4 HM.out.blk⟩); clear hb4)
            clear c0 c1 c2
            go_loopg [12] k (fun fu c wr => ∃ j : Nat, j + fu = k ∧ c = .int .i64 j ∧ Hid (WoM w wr #[.slice sa g.S.length sc, .slice aa g.A.length ac, .slice ta g.T.length tc] 26 (tab N (LJ a j))))
            case atStart => exact ⟨0, by omega, rfl, HM4⟩
            case round =>
              clear HM4
              obtain ⟨j, hj, rfl, HM⟩ := hrel
              by_cases hlt3 : j < k
              · have z3 : (j : Int) < (k : Int) := by omega
                obtain ⟨b1, o1, rfl, d1⟩ := HP.out j hlt3
                have hi := HIN.out j hlt3
                have HLY := Lib.hid (LY.out a j (part.getD j 0).toNat hlt3 (by omega))
                have HLN := Lib.hid (LN.out a j (part.getD j 0).toNat hlt3 (by omega))
                have y1 := bkeep HM.out.below d1
                clear d1
                generalize part.getD j 0 = p at *
                obtain ⟨q, rfl⟩ : ∃ q : Nat, p = (q : Int) := ⟨p.toNat, by omega⟩
                rw [Int.toNat_natCast] at HLY HLN
                have hq : q < N := by omega
                have z4 : (q : Int) < (N : Int) := by omega
                obtain ⟨b2, o2, uu, rfl, c2, r2⟩ := HRW.out q hq
                have hrl := HRL.out q hq
                obtain ⟨ra, rc, rfl, r2⟩ := r2
                rw [hrl] at r2 c2
                obtain ⟨b3, o3, rfl, d3⟩ := r2 a hlt2
                have y2 := bkeep HM.out.below c2
                have y3 := bkeep HM.out.below d3
                have y4 := HM.out.cell (q := q) (by rw [tab_len]; exact hq)
                have f2 := HM.out.free q
                have HMS := Lib.hid (HM.out.set q false)
                clear c2 r2 d3 hi hrl
                generalize (tab N (LJ a j)).getD q false = vb at *
                cases hx : (en.getD q []).getD a false
                · rw [hx] at y3
                  have HM1 := Lib.hid (HM.out.same (l' := tab N (LJ a (j + 1))) (tab_same fun x _ => HLN.out hx x))
                  clear hx
                  go_wp2_with fail
                  go_roundg (k - (j + 1))
                  case measure => omega
                  case rel => exact ⟨j + 1, by omega, by simp, HM1⟩
                · rw [hx] at y3
                  have HM1 := Lib.hid (HMS.out.same (l' := tab N (LJ a (j + 1))) (by rw [tab_upd]; exact tab_same fun x _ => HLY.out hx x))
                  clear hx
                  go_wp2_with fail
                  go_roundg (k - (j + 1))
                  case measure => omega
                  case rel => exact ⟨j + 1, by omega, by simp, HM1⟩
              · obtain rfl : j = k := by omega
                have HM1 := Lib.hid (HM.out.same (l' := tab N (LT (a + 1))) (tab_same fun x _ => HE.out x))
                go_wp2_with fail
                go_roundg (A - (a + 1))
                case measure => omega
                case rel => exact ⟨a + 1, by omega, by simp, HM1⟩
          · rw [hac] at HXX
            have HE := Lib.hid (fun x => LA.out a x hac)
            clear hac
            go_wp2_with (go_at_call 64; refine HXX.out.mono ?_; rintro e w4 ⟨rfl, hb4⟩; have HM4 := Lib.hid (show WoM w w4 #[.slice sa g.S.length sc, .slice aa g.A.length ac, .slice ta g.T.length tc] 26 (tab N (LT (a + 1))) from ⟨HM.out.below.trans (hb4.mono HM.out.below.size), bheap hb4 HM.out.vt, by rw [← show tab N (LT a) = tab N (LT (a + 1)) from tab_same fun x _ => HE.out x]; exact bheap hb4 HM.out.blk⟩); clear hb4)
            go_roundg (A - (a + 1))
            case measure => omega
            case rel => exact ⟨a + 1, by omega, by simp, HM4⟩
        · obtain rfl : a = A := by omega
          go_wp2_with fail
          go_ret
          exact ⟨_, rfl, boolsAt_block (n := N) HM.out.blk (by rw [tab_len]) N, HM.out.below⟩
end Go.Proofs.Ytnlaonppgebpoaa

namespace Go.Proofs.Ytnlaonppgebpoaa
open Go.RowKit

theorem drop_at {rows : List (List Int)} {k : Nat} (h : k < rows.length) : rows.drop k = rows.getD k [] :: rows.drop (k + 1) := by
  rw [List.drop_eq_getElem_cons h, List.getD_eq_getElem?_getD, List.getElem?_eq_getElem h]; rfl
/-- the stack's row is the call's own; its parts lie elsewhere -/
structure StkM (w : World) (base : Nat) (sv : Value) (rows : List (List Int)) (vals : List Value) : Prop where
  len : vals.length = rows.length
  out : w.ownsRow base 24 1 sv rows.length vals
  inn : ∀ j, j < rows.length → IntsAt w (vals.getD j undef) (rows.getD j [])
  off : ∀ j, j < rows.length → ∀ q, sv.ownBlock = some q → (vals.getD j undef).ownBlock ≠ some q
  lt : ∀ j, j < rows.length → ∀ q, (vals.getD j undef).ownBlock = some q → base ≤ q ∧ q < w.heap.size
theorem StkM.frm {w w' : World} {base : Nat} {sv : Value} {rows : List (List Int)} {vals : List Value} (h : StkM w base sv rows vals) {F : Nat → Prop} (hf : Frm F w w') (h1 : ∀ q, sv.ownBlock = some q → ¬ F q) (h2 : ∀ j, j < rows.length → ∀ q, (vals.getD j undef).ownBlock = some q → ¬ F q) : StkM w' base sv rows vals :=
  ⟨h.len, ownsRow_frm h.out hf h1, fun j hj => (h.inn j hj).frm hf (h2 j hj), h.off, fun j hj q hq => ⟨(h.lt j hj q hq).1, Nat.lt_of_lt_of_le (h.lt j hj q hq).2 hf.size⟩⟩
/-- a stack in its cell, behind all that lay in w2 -/
structure SgSt (w2 wr : World) (sv : Value) (rows : List (List Int)) (vals : List Value) : Prop where
  below : Below w2.heap.size w2 wr
  cell : wr.heap[w2.heap.size]? = some (.cells #[sv] 49 (0, 0))
  stk : StkM wr (w2.heap.size + 1) sv rows vals
/-- and rows to be pushed, apart from it -/
structure PuSt (w2 wr : World) (sv : Value) (rows : List (List Int)) (vals : List Value) (lv : Value) (new : List (List Int)) (nv : List Value) : Prop extends SgSt w2 wr sv rows vals where
  nwm : RowsM wr (w2.heap.size + 1) lv new nv
  offL : ∀ q, sv.ownBlock = some q → lv.ownBlock ≠ some q
  offN : ∀ j, j < new.length → ∀ q, sv.ownBlock = some q → (nv.getD j undef).ownBlock ≠ some q
theorem SgSt.more {w2 wr w' : World} {sv : Value} {rows : List (List Int)} {vals : List Value} (h : SgSt w2 wr sv rows vals) (hb : Below wr.heap.size wr w') : SgSt w2 w' sv rows vals :=
  ⟨h.below.trans (hb.mono h.below.size), bheap hb h.cell, h.stk.frm (F := fun _ => False) (bfrm hb _) (fun _ _ => id) (fun _ _ _ _ => id)⟩
theorem PuSt.more {w2 wr w' : World} {sv : Value} {rows : List (List Int)} {vals : List Value} {lv : Value} {new : List (List Int)} {nv : List Value} (h : PuSt w2 wr sv rows vals lv new nv) (hb : Below wr.heap.size wr w') : PuSt w2 w' sv rows vals lv new nv :=
  ⟨h.toSgSt.more hb, h.nwm.more hb, h.offL, h.offN⟩
theorem SgSt.drew {w2 wr : World} {sv : Value} {rows : List (List Int)} {vals : List Value} (h : SgSt w2 wr sv rows vals) : SgSt w2 wr.drew sv rows vals := h.more (Below.refl _ _).drew
theorem PuSt.drew {w2 wr : World} {sv : Value} {rows : List (List Int)} {vals : List Value} {lv : Value} {new : List (List Int)} {nv : List Value} (h : PuSt w2 wr sv rows vals lv new nv) : PuSt w2 wr.drew sv rows vals lv new nv := h.more (Below.refl _ _).drew
/-- rows laid while the stack stood are apart from it -/
theorem SgSt.with {w2 wq wr : World} {sv : Value} {rows : List (List Int)} {vals : List Value} (h : SgSt w2 wq sv rows vals) (hb : Below wq.heap.size wq wr) {lv : Value} {new : List (List Int)} {nv : List Value} {base : Nat} (hn : RowsM wr base lv new nv) (hbase : wq.heap.size ≤ base) : PuSt w2 wr sv rows vals lv new nv := by
  have hc : w2.heap.size < wq.heap.size := (Array.getElem?_eq_some_iff.1 h.cell).1
  have hs : ∀ q, sv.ownBlock = some q → q < wq.heap.size := fun q hq => (h.stk.out.lt q hq).2
  refine ⟨h.more hb, hn.base (by omega), fun q hq e => ?_, fun j hj q hq e => ?_⟩
  · have := hs q hq
    have := (hn.out.lt q e).1
    omega
  · have := hs q hq
    have := ((hn.inn j hj).lt q e).1
    omega
theorem sgst_start (w2 : World) : SgSt w2 (w2.alloc (.cells #[.slice none 0 0] 49)) (.slice none 0 0) [] [] :=
  ⟨balloc w2 _, heap_alloc_new w2 _, ⟨rfl, World.ownsRow_nil _ _ _ _, fun j hj => by simp at hj, fun j hj => by simp at hj, fun j hj => by simp at hj⟩⟩
/-- one pushed: behind the append, behind the store -/
theorem PuSt.push {w2 wr w4 : World} {sv : Value} {rows : List (List Int)} {vals : List Value} {lv : Value} {new : List (List Int)} {nv : List Value} (h : PuSt w2 wr sv rows vals lv new nv) {j m : Nat} (hj : j < new.length) (hm : rows.length = m) {gk cap : Nat}
    (hg : wr.grownBy w4 sv.ownBlock) (hor : sv.ownBlock = some gk ∨ gk = wr.heap.size)
    (hown : w4.ownsRow (w2.heap.size + 1) 24 1 (.slice (some ⟨gk, 0, none⟩) (m + 1) cap) (m + 1) (vals ++ [nv.getD j undef])) :
    w4.cell? ⟨w2.heap.size, 0, none⟩ = some sv ∧ w4.frozen? ⟨w2.heap.size, 0, none⟩ = false ∧
      PuSt w2 (w4.setCell ⟨w2.heap.size, 0, none⟩ (.slice (some ⟨gk, 0, none⟩) (m + 1) cap)) (.slice (some ⟨gk, 0, none⟩) (m + 1) cap) (rows ++ [new.getD j []]) (vals ++ [nv.getD j undef]) lv new nv := by
  subst hm
  have hc : w2.heap.size < wr.heap.size := (Array.getElem?_eq_some_iff.1 h.cell).1
  have hs : ∀ q, sv.ownBlock = some q → w2.heap.size + 1 ≤ q ∧ q < wr.heap.size := fun q hq => h.stk.out.lt q hq
  have hf1 : Frm (fun k => sv.ownBlock = some k) wr w4 := (Frm.refl _ wr).grown hg (fun k hk _ => hk)
  have hf2 : Frm (fun k => k = w2.heap.size) w4 (w4.setCell ⟨w2.heap.size, 0, none⟩ (.slice (some ⟨gk, 0, none⟩) (rows.length + 1) cap)) := (Frm.refl (fun k => k = w2.heap.size) w4).setCell (p := ⟨w2.heap.size, 0, none⟩) (fun _ => rfl) _
  have hcell := hf1.heap h.cell (fun e => by have := (hs _ e).1; omega)
  have hf : Frm (fun k => sv.ownBlock = some k ∨ k = w2.heap.size) wr (w4.setCell ⟨w2.heap.size, 0, none⟩ (.slice (some ⟨gk, 0, none⟩) (rows.length + 1) cap)) :=
    (hf1.mono (fun _ _ e => .inl e)).trans (hf2.mono (fun _ _ e => .inr e))
  have hgk := (hown.lt gk rfl).1
  have hgne : ∀ q, q < wr.heap.size → (∀ k, sv.ownBlock = some k → q ≠ k) → q ≠ gk := fun q hq hno e => by
    subst e
    rcases hor with e | e
    · exact hno _ e rfl
    · omega
  have hlen := h.stk.len
  refine ⟨cell_of_block hcell 0 _ rfl, free_of_block hcell 0, ⟨⟨?_, ?_, ⟨by simp [hlen], ?_, fun k hk => ?_, fun k hk q hq => ?_, fun k hk q hq => ?_⟩⟩, ?_, fun q hq => ?_, fun k hk q hq => ?_⟩⟩
  · exact h.below.trans (hf.below (B := w2.heap.size) (fun k hk => by rcases hk with e | e; exact Nat.le_of_succ_le (hs k e).1; omega) (by omega))
  · rw [heap_setCell_block hcell]; rfl
  · have := ownsRow_frm hown hf2 (fun q hq e => by simp [Value.ownBlock] at hq; omega)
    simpa using this
  · rw [getD_snoc _ _ _ _ (by simp at hk; omega), getD_snoc _ _ _ _ (by simp at hk; omega), hlen]
    by_cases e : k < rows.length
    · rw [if_pos e, if_pos e]
      refine (h.stk.inn k e).frm hf (fun q hq e2 => ?_)
      rcases e2 with e2 | e2
      · exact h.stk.off k e q e2 hq
      · have := (h.stk.lt k e q hq).1; omega
    · rw [if_neg e, if_neg e]
      refine (own_ints (h.nwm.inn j hj)).frm hf (fun q hq e2 => ?_)
      rcases e2 with e2 | e2
      · exact h.offN j hj q e2 hq
      · have := ((h.nwm.inn j hj).lt q hq).1; omega
  · obtain rfl : gk = q := by simpa [Value.ownBlock] using hq
    rw [getD_snoc _ _ _ _ (by simp at hk; omega), hlen]
    by_cases e : k < rows.length
    · rw [if_pos e]
      exact fun e2 => hgne _ (h.stk.lt k e _ e2).2 (fun z hz e3 => h.stk.off k e z hz (e3 ▸ e2)) rfl
    · rw [if_neg e]
      exact fun e2 => hgne _ ((h.nwm.inn j hj).lt _ e2).2 (fun z hz e3 => h.offN j hj z hz (e3 ▸ e2)) rfl
  · rw [getD_snoc _ _ _ _ (by simp at hk; omega), hlen] at hq
    have hsz := hf.size
    by_cases e : k < rows.length
    · rw [if_pos e] at hq
      have := h.stk.lt k e q hq; omega
    · rw [if_neg e] at hq
      have := (h.nwm.inn j hj).lt q hq; omega
  · refine h.nwm.frm hf (fun q hq e2 => ?_) (fun k hk q hq e2 => ?_)
    · rcases e2 with e2 | e2
      · exact h.offL q e2 hq
      · have := (h.nwm.out.lt q hq).1; omega
    · rcases e2 with e2 | e2
      · exact h.offN k hk q e2 hq
      · have := ((h.nwm.inn k hk).lt q hq).1; omega
  · obtain rfl : gk = q := by simpa [Value.ownBlock] using hq
    exact fun e2 => hgne _ (h.nwm.out.lt _ e2).2 (fun z hz e3 => h.offL z hz (e3 ▸ e2)) rfl
  · obtain rfl : gk = q := by simpa [Value.ownBlock] using hq
    exact fun e2 => hgne _ ((h.nwm.inn k hk).lt _ e2).2 (fun z hz e3 => h.offN k hk z hz (e3 ▸ e2)) rfl
/-- the last one taken off -/
theorem SgSt.pop {w2 wr : World} {C : Nat} (hC : w2.heap.size = C) {sv : Value} {rows : List (List Int)} {r : List Int} {vals : List Value} (h : SgSt w2 wr sv (rows ++ [r]) vals) :
    ∃ gk cap, sv = .slice (some ⟨gk, 0, none⟩) (rows.length + 1) cap ∧ rows.length + 1 ≤ cap ∧ cap ≤ maxLen ∧ ∃ u, wr.cell? ⟨gk, rows.length, none⟩ = some u ∧ IntsAt wr u r ∧ IntsAt (wr.setCell ⟨C, 0, none⟩ (.slice (some ⟨gk, 0, none⟩) rows.length cap)) u r ∧
      SgSt w2 (wr.setCell ⟨C, 0, none⟩ (.slice (some ⟨gk, 0, none⟩) rows.length cap)) (.slice (some ⟨gk, 0, none⟩) rows.length cap) rows (vals.take rows.length) := by
  subst hC
  have hlen := h.stk.len
  have hl2 : (rows ++ [r]).length = rows.length + 1 := by simp
  rw [hl2] at hlen
  obtain ⟨hl, h'⟩ := h.stk.out
  rw [hl2] at h'
  rcases h' with ⟨-, e⟩ | ⟨gk, cap, cur, rfl, hb, hg, hn, hc, hs, ht⟩
  · omega
  have hf : Frm (fun k => k = w2.heap.size) wr (wr.setCell ⟨w2.heap.size, 0, none⟩ (.slice (some ⟨gk, 0, none⟩) rows.length cap)) := (Frm.refl (fun k => k = w2.heap.size) wr).setCell (p := ⟨w2.heap.size, 0, none⟩) (fun _ => rfl) _
  have hin := h.stk.inn rows.length (by simp)
  have er : (rows ++ [r]).getD rows.length [] = r := by simp
  rw [er] at hin
  have hlt := h.stk.lt rows.length (by simp)
  obtain ⟨b, e1, -, e2⟩ := ownsRow_cell h.stk.out (j := rows.length) (by simp)
  obtain rfl : gk = b := by simpa [Value.ownBlock] using e1
  refine ⟨gk, cap, rfl, by omega, hc, _, e2, hin, hin.frm hf (fun q hq e => by have := (hlt q hq).1; omega), ?_, ?_, ?_⟩
  · exact h.below.setCell (p := ⟨w2.heap.size, 0, none⟩) (Nat.le_refl _) _
  · rw [heap_setCell_block h.cell]; rfl
  · have hv : ∀ j, j < rows.length → (vals.take rows.length).getD j undef = vals.getD j undef := fun j hj => by
      simp [List.getD_eq_getElem?_getD, hj]
    have hr : ∀ j, j < rows.length → (rows ++ [r]).getD j [] = rows.getD j [] := fun j hj => by rw [getD_snoc _ _ _ _ (by omega), if_pos hj]
    refine ⟨by rw [List.length_take]; omega, ⟨by rw [List.length_take]; omega, .inr ⟨gk, cap, cur, rfl, hb, hf.heap hg (by omega), by omega, hc, hs, ?_⟩⟩, fun j hj => ?_, fun j hj q hq => ?_, fun j hj q hq => ?_⟩
    · rw [← ht, List.take_take]
      congr 1
      omega
    · rw [hv j hj, ← hr j hj]
      exact (h.stk.inn j (by simp; omega)).frm hf (fun q hq e => by have := (h.stk.lt j (by simp; omega) q hq).1; omega)
    · rw [hv j hj]; exact h.stk.off j (by simp; omega) q (by simpa [Value.ownBlock] using hq)
    · rw [hv j hj] at hq
      have := h.stk.lt j (by simp; omega) q hq
      exact ⟨this.1, Nat.lt_of_lt_of_le this.2 hf.size⟩
/-! how deep it gets -/
def Fits (N : Nat) : List (List Int) → Prop
  | [] => True
  | r :: rest => rest.length + 1 + 100000 * r.length ≤ 100000 * (N + 1) ∧ Fits N rest
theorem Fits.len {N : Nat} : ∀ {W : List (List Int)}, Fits N W → W.length ≤ 100000 * (N + 1)
  | [], _ => by simp
  | r :: rest, h => by have := h.1; rw [List.length_cons]; omega
theorem Fits.app {N n K : Nat} {rest : List (List Int)} (hr : Fits N rest) : ∀ {L : List (List Int)}, L.length + rest.length ≤ K → (∀ r ∈ L, r.length ≤ n) → K + 100000 * n ≤ 100000 * (N + 1) → Fits N (L ++ rest)
  | [], _, _, _ => hr
  | r :: L, h, hl, hK => by
    have ih := Fits.app hr (L := L) (by simp at h; omega) (fun x hx => hl x (List.mem_cons_of_mem _ hx)) hK
    refine ⟨?_, ih⟩
    have := hl r (List.mem_cons_self ..)
    simp at h ⊢
    omega
/-- what the stack holds -/
structure StW (g : Gr) (en : List (List Bool)) (A : Nat) (W : List (List Int)) : Prop where
  ok : ∀ r ∈ W, InT en r ∧ r.length ≤ nodesN g ∧ cycB g r = true
  fits : Fits (nodesN g) W
  st : stR g en A (nodesN g) W = stR g en A (nodesN g) (groupsI g)
theorem stw_start {g : Gr} {en : List (List Bool)} {A : Nat} (hel : en.length = nodesN g) (hn : nodesN g ≤ 100000) : StW g en A ((groupsI g).filter (cycB g)) := by
  refine ⟨fun r hr => ?_, ?_, stR_filter _ _ _ _ _⟩
  · obtain ⟨h1, h2⟩ := List.mem_filter.1 hr
    obtain ⟨h3, h4⟩ := groupsI_row h1
    exact ⟨fun x hx => by have := h4 x hx; omega, h3, h2⟩
  · have hl := Nat.le_trans (List.length_filter_le (cycB g) (groupsI g)) (groupsI_len g)
    have := Fits.app (N := nodesN g) (n := nodesN g) (K := 100000) (rest := []) trivial (L := (groupsI g).filter (cycB g)) (by simp; omega) (fun r hr => (groupsI_row (List.mem_filter.1 hr).1).1) (by omega)
    simpa using this
theorem stw_nil {g : Gr} {en : List (List Bool)} {A : Nat} (h : StW g en A []) : stR g en A (nodesN g) (groupsI g) = [] := by rw [← h.st, stR_nil]
theorem stw_head {g : Gr} {en : List (List Bool)} {A : Nat} {p : List Int} {rest : List (List Int)} (h : StW g en A (p :: rest)) (hs : (spK g en spS p A).length = 0) : stR g en A (nodesN g) (groupsI g) = p := by
  obtain ⟨-, h2, h3⟩ := h.ok p (List.mem_cons_self ..)
  rw [← h.st, stR_head h2 h3 hs]
theorem stw_step {g : Gr} {en : List (List Bool)} {A : Nat} {p : List Int} {rest : List (List Int)} (h : StW g en A (p :: rest)) (hs : ¬ (spK g en spS p A).length = 0) :
    StW g en A ((withinI g (lessL g en A p)).filter (cycB g) ++ rest) ∧ work ((withinI g (lessL g en A p)).filter (cycB g) ++ rest) < work (p :: rest) := by
  obtain ⟨h1, h2, h3⟩ := h.ok p (List.mem_cons_self ..)
  refine ⟨⟨fun r hr => ?_, ?_, ?_⟩, work_step h1 hs⟩
  · rcases List.mem_append.1 hr with hr | hr
    · obtain ⟨h4, h5⟩ := List.mem_filter.1 hr
      have := less_shorter h1 hs h4
      exact ⟨less_in h4, by omega, h5⟩
    · exact h.ok r (List.mem_cons_of_mem _ hr)
  · have hl := Nat.le_trans (List.length_filter_le (cycB g) (withinI g (lessL g en A p))) (withinI_len _ _)
    have hp := cyc_pos h3
    obtain ⟨f1, f2⟩ := h.fits
    refine Fits.app (n := p.length - 1) (K := 100000 + rest.length) f2 (by omega) (fun r hr => ?_) (by omega)
    have := less_shorter h1 hs (List.mem_filter.1 hr).1
    omega
  · rw [stR_step ⟨h1, h2⟩ h3 hs, h.st]
end Go.Proofs.Ytnlaonppgebpoaa

namespace Go.Proofs.Ytnlaonppgebpoaa
open Go.RowKit

/-- what an operation's value is, and stays -/
structure MR where
  rel : Value → World → Prop
  mono : ∀ v w w', Below w.heap.size w w' → rel v w → rel v w'
def MR.of (k : RK) : MR := ⟨k.rel, fun _ _ _ hb h => k.mono hb h⟩
/-- a row of one value of its own -/
def MR.one (x : Value) (t : TypeId) : MR := ⟨fun v w => ∃ b, v = .slice (some ⟨b, 0, none⟩) 1 1 ∧ w.heap[b]? = some (.cells #[x] t (0, 0)), fun _ _ _ hb ⟨b, e, h⟩ => ⟨b, e, bheap hb h⟩⟩
def relM (ks : List MR) (j : Nat) (v : Value) (w : World) : Prop := (ks.getD j (MR.of (.eq undef))).rel v w
theorem relM_mono {ks : List MR} {j : Nat} {v : Value} {w w' : World} (hb : Below w.heap.size w w') (h : relM ks j v w) : relM ks j v w' := MR.mono _ _ _ _ hb h
set_option maxRecDepth 100000 in
set_option maxHeartbeats 16000000 in
theorem push_ok (w2 w0 : World) (C : Nat) (hC : w2.heap.size = C) (g : Gr) (gb : Nat) (v1 v2 v3 sv : Value) (rows : List (List Int)) (vals : List Value) (lv : Value) (new : List (List Int)) (nv : List Value) (h : PuSt w2 w0 sv rows vals lv new nv)
    (hx : w2.heap[gb]? = some (.cells #[v1, v2, v3] 26 (0, 0))) (hg : GraphAt w2 (.agg #[v1, v2, v3]) g) (hlen : rows.length + new.length ≤ 20000000000) (hr : ∀ r ∈ new, r.length ≤ 1000000 ∧ ∀ x ∈ r, (Lit.int .i64 x).wf = true) :
    Calls Try.prog 93 #[lv, .pointer (some ⟨gb, 0, none⟩), .pointer (some ⟨C, 0, none⟩)] w0 fun e w' => e = .returned (.tuple #[]) ∧ ∃ sv' vals', PuSt w2 w' sv' (rows ++ (new.filter (cycB g)).reverse) vals' lv new nv := by
  subst hC
  obtain ⟨j0, hj0, hw0, hw1, hw2⟩ := info_parts Try.info24
  have X0 := Lib.hid hx
  have HC := Lib.hid (fun (w' : World) (hb : Below w2.heap.size w2 w') (pv : Value) (part : List Int) (hp : IntsAt w' pv part) (hi : part.length ≤ 1000000 ∧ ∀ x ∈ part, (Lit.int .i64 x).wf = true) => cyc_ok _ pv g part w' (hg.below hb) hp hi.2 hi.1)
  have HW := Lib.hid (fun k (hk : k < new.length) => hr _ (mem_getD hk))
  have HD := Lib.hid (fun k (hk : k < new.length) => drop_at hk)
  have S0 := Lib.hid h
  obtain ⟨la, lc, rfl⟩ := own_var h.nwm.out
  clear h hx hg hr
  generalize cycB g = CY at *
  obtain ⟨n, hn⟩ : ∃ n, new.length = n := ⟨_, rfl⟩
  have HN := Lib.hid hn
  rw [hn] at hlen
  rw [hn] at S0
  rw [hn]
  go_enter Try.func93, Try.ntmps93
  go_wp2_with fail
  go_loopg [4] n (fun fu c wr => ∃ (k : Nat) (sv' : Value) (vals' : List Value), k = fu ∧ k ≤ n ∧ c = .int .i64 ((k : Int) - 1) ∧ Hid (PuSt w2 wr sv' (rows ++ ((new.drop k).filter CY).reverse) vals' (.slice la n lc) new nv))
  case atStart => exact ⟨n, sv, vals, rfl, Nat.le_refl _, rfl, Lib.hid (by rw [← HN.out, List.drop_length]; simpa [HN.out] using S0.out)⟩
  case round =>
    obtain ⟨k, sv', vals', hk, hkn, rfl, HS⟩ := hrel
    clear S0
    cases k with
    | zero =>
      have E : Hid (PuSt w2 wr sv' (rows ++ (new.filter CY).reverse) vals' (.slice la n lc) new nv) := HS
      go_wp2_with fail
      go_end0
      exact ⟨rfl, _, _, E.out⟩
    | succ k =>
      have hkl : k < new.length := by have := HN.out; omega
      have e0 : (((k + 1 : Nat) : Int) - 1) = (k : Int) := by omega
      rw [e0]
      have z1 : (k : Int) < (n : Int) := by omega
      have z2 : (0 : Int) ≤ (k : Int) := by omega
      obtain ⟨b1, -, ⟨c1, e1⟩, d1⟩ := ownsRow_cell HS.out.nwm.out hkl
      simp only [Value.slice.injEq] at e1
      obtain ⟨rfl, -, rfl⟩ := e1
      have HPV := Lib.hid (own_ints (HS.out.nwm.inn k hkl))
      have hx := bheap HS.out.below X0.out
      have c0 := cell_of_block hx 0 _ rfl
      have c1 := cell_of_block hx 1 _ rfl
      have c2 := cell_of_block hx 2 _ rfl
      have HDK := Lib.hid (HD.out k hkl)
      have hi := HW.out k hkl
      have HBW := HS.out.below
      have HCC := Lib.hid (fun (i : Sub wr) => HC.out i.1 (HBW.trans (i.2.mono HBW.size)) (nv.getD k undef) (new.getD k []) (HPV.out.below i.2) hi)
      obtain ⟨pv, hpv⟩ : ∃ z, nv.getD k undef = z := ⟨_, rfl⟩
      rw [hpv] at d1 HPV HCC
      have HNV := Lib.hid hpv
      clear hpv hx hi HBW
      have HKL := Lib.hid hkl
      clear hkl
      obtain ⟨pa, pc, rfl, hpp⟩ := HPV.out
      clear hpp
      have f0 : ∀ i : Sub wr, i.1.cell? ⟨gb, 0, none⟩ = some v1 := fun i => i.cell c0
      have f1 : ∀ i : Sub wr, i.1.cell? ⟨gb, 1, none⟩ = some v2 := fun i => i.cell c1
      have f2 : ∀ i : Sub wr, i.1.cell? ⟨gb, 2, none⟩ = some v3 := fun i => i.cell c2
      have f3 : ∀ i : Sub wr, i.1.cell? ⟨b1, k, none⟩ = some (.slice pa (new.getD k []).length pc) := fun i => i.cell d1
      have FT : Hid (CY (new.getD k []) = true → ((new.drop k).filter CY).reverse = ((new.drop (k + 1)).filter CY).reverse ++ [new.getD k []]) := Lib.hid (fun h => by rw [HDK.out, List.filter_cons_of_pos h]; simp)
      have FF : Hid (CY (new.getD k []) = false → ((new.drop k).filter CY).reverse = ((new.drop (k + 1)).filter CY).reverse) := Lib.hid (fun h => by rw [HDK.out, List.filter_cons_of_neg (by rw [h]; simp)])
      have FL : Hid (rows.length + ((new.drop (k + 1)).filter CY).length + 1 ≤ 20000000000) := Lib.hid (by have := List.length_filter_le CY (new.drop (k + 1)); rw [List.length_drop] at this; have := HN.out; have := HKL.out; omega)
      clear HDK
      obtain ⟨prt, hprt⟩ : ∃ z, new.getD k [] = z := ⟨_, rfl⟩
      rw [hprt] at HCC FT FF f3 HPV d1
      have HPRT := Lib.hid hprt
      clear hprt
      cases hc : CY prt
      · rw [hc] at HCC
        have E := Lib.hid (FF.out hc)
        go_wp2_with fail
        refine region_below (by kernel_rfl) (by kernel_rfl) ?_
        repeat (go_big_quiet_step ((go_at_call 50; exact Calls.sub_of (HCC.out _))))
        refine wpQuiet_nil ?_
        intro w4 hb4
        have HS4 := Lib.hid (HS.out.more hb4)
        clear hb4
        go_wp2_with fail
        go_roundg k
        case measure => omega
        case rel => exact ⟨k, _, _, rfl, by omega, by simp, Lib.hid (by rw [E.out]; exact HS4.out)⟩
      · rw [hc] at HCC
        have E := Lib.hid (FT.out hc)
        go_wp2_with fail
        refine region_below (by kernel_rfl) (by kernel_rfl) ?_
        repeat (go_big_quiet_step ((go_at_call 50; exact Calls.sub_of (HCC.out _))))
        refine wpQuiet_nil ?_
        intro w4 hb4
        have HS4 := Lib.hid (HS.out.more hb4)
        have y1 := bkeep hb4 d1
        clear hb4 f0 f1 f2 f3 d1 c0 c1 c2
        obtain ⟨sa, sc, rfl⟩ := own_var HS4.out.stk.out
        have y2 := cell_of_block HS4.out.cell 0 _ rfl
        obtain ⟨m, hm⟩ : ∃ m, (rows ++ ((new.drop (k + 1)).filter CY).reverse).length = m := ⟨_, rfl⟩
        have HM := Lib.hid hm
        have hml : m + 1 ≤ 20000000000 := by have := FL.out; rw [List.length_append, List.length_reverse] at hm; omega
        rw [hm] at y2
        have HOW := Lib.hid (HS4.out.stk.out)
        rw [hm] at HOW HS4
        have HSZ : Hid (w2.heap.size + 1 ≤ w4.heap.size) := Lib.hid (Array.getElem?_eq_some_iff.1 HS4.out.cell).1
        clear hm
        go_wp2_with fail
        refine region_rel_tail 6 (fun q => match q with | 18 => u18 | 19 => u19 | 20 => u20 | 21 => u21 | 22 => u22 | 23 => u23 | _ => undef)
          (fun f => { tmps := #[.slice (some ⟨b1, 0, none⟩) n lc, .pointer (some ⟨gb, 0, none⟩), .pointer (some ⟨w2.heap.size, 0, none⟩), undef, .int .i64 (k : Nat), .slice (some ⟨b1, 0, none⟩) n lc, .int .i64 (n : Nat), .int .i64 ((n : Int) - 1), .int .i64 (k : Nat), .bool true, u10, u11, .agg #[v1, v2, v3], .slice (some ⟨b1, 0, none⟩) n lc, .int .i64 (k : Nat), .pointer (some ⟨b1, k, none⟩), .slice pa prt.length pc, .bool true, f 18, f 19, f 20, f 21, f 22, f 23, u24], defers := [] }) (fun j => j + 18)
          (relM [.of (.eq (.slice sa m sc)), .of (.eq (.slice (some ⟨b1, 0, none⟩) n lc)), .of (.eq (.int .i64 (k : Nat))), .of (.eq (.pointer (some ⟨b1, k, none⟩))), .of (.eq (.slice pa prt.length pc)), .one (.slice pa prt.length pc) 24])
          rfl (by kernel_rfl) (by kernel_rfl) (by kernel_rfl) (by decide) (by kernel_rfl) (fun i u w w' hb h => relM_mono hb h) (by kernel_rfl) (by kernel_rfl) ?_ ?_ ?_
        · intro j hj f v
          rcases j with _ | _ | _ | _ | _ | _ | j
          all_goals first | rfl | omega | (simp at hj; omega)
        · refine ⟨?_, ?_, ?_, ?_, ?_, ?_, trivial⟩
          · intro f w' hb hd K hK
            have y := bkeep hb y2
            dsimp only
            go_simp
            exact hK (.slice sa m sc) w' (Below.refl _ _) rfl
          · intro f w' hb hd K hK
            dsimp only
            go_simp
            exact hK (.slice (some ⟨b1, 0, none⟩) n lc) w' (Below.refl _ _) rfl
          · intro f w' hb hd K hK
            dsimp only
            go_simp
            exact hK (.int .i64 (k : Nat)) w' (Below.refl _ _) rfl
          · intro f w' hb hd K hK
            have h0 : f 19 = (.slice (some ⟨b1, 0, none⟩) n lc) := hd 1 (by kernel_rfl)
            have h1 : f 20 = (.int .i64 (k : Nat)) := hd 2 (by kernel_rfl)
            dsimp only
            go_simp
            have q := hK (.pointer (some ⟨b1, k, none⟩)) w' (Below.refl _ _) rfl
            simp only [h0, h1] at q
            exact q
          · intro f w' hb hd K hK
            have h0 : f 21 = (.pointer (some ⟨b1, k, none⟩)) := hd 3 (by kernel_rfl)
            have y := bkeep hb y1
            dsimp only
            go_simp
            have q := hK (.slice pa prt.length pc) w' (Below.refl _ _) rfl
            simp only [h0] at q
            exact q
          · intro f w' hb hd K hK
            have h0 : f 22 = (.slice pa prt.length pc) := hd 4 (by kernel_rfl)
            dsimp only
            go_simp
            have q := hK _ _ (balloc w' (.cells #[.slice pa prt.length pc] 24)) ⟨w'.heap.size, rfl, heap_alloc_new w' _⟩
            simp only [h0] at q
            exact q
        intro f w6 hb6 hr6
        have h18 : f 18 = (.slice sa m sc) := hr6 0 (by decide)
        have h19 : f 19 = (.slice (some ⟨b1, 0, none⟩) n lc) := hr6 1 (by decide)
        have h20 : f 20 = (.int .i64 (k : Nat)) := hr6 2 (by decide)
        have h21 : f 21 = (.pointer (some ⟨b1, k, none⟩)) := hr6 3 (by decide)
        have h22 : f 22 = (.slice pa prt.length pc) := hr6 4 (by decide)
        obtain ⟨b6, h23, hb66⟩ : ∃ b, f 23 = .slice (some ⟨b, 0, none⟩) 1 1 ∧ w6.heap[b]? = some (.cells #[.slice pa prt.length pc] 24 (0, 0)) := hr6 5 (by decide)
        simp only [h18, h19, h20, h21, h22, h23, List.drop_succ_cons, List.drop_zero]
        have HS6 := Lib.hid (HS4.out.more hb6)
        have HOW6 := Lib.hid HS6.out.stk.out
        rw [HM.out] at HOW6
        have HSZ6 : Hid (w2.heap.size + 1 ≤ w6.heap.size) := Lib.hid (Nat.le_trans HSZ.out hb6.size)
        have B6 := Lib.hid hb66
        clear hb6 hr6 h18 h19 h20 h21 h22 h23 hb66 HS4 HOW
        go_wp2_with (at_builtin; refine wpList_append_lies w6 rfl (.tmp 18) (.tmp 23) 49 rfl (w2.heap.size + 1) 24 j0 (.slice none 0 0) 1 24 Try.underlying49 hj0 hw0 hw1 hw2 rfl (by decide) (.slice sa m sc) m vals' rfl HOW6.out ⟨b6, 0, none⟩ 1 1 [.slice pa prt.length pc] rfl rfl (World.news_of_block B6.out) (by simp [Value.oneCell']) (by omega) (by unfold maxLen; omega) (by omega) HSZ6.out w6.heap.size rfl ?_; intro g3 cap3 w5 hown3 hgr3 hor3 hlt3; obtain ⟨q0, q1, q2⟩ := HS6.out.push HKL.out HM.out hgr3 hor3 (by rw [HNV.out, HPRT.out]; exact hown3); have Q := Lib.hid q2; clear q2 hown3 hgr3 hor3)
        go_roundg k
        case measure => omega
        case rel => exact ⟨k, _, _, rfl, by omega, by simp, Lib.hid (by rw [E.out, ← List.append_assoc, ← HPRT.out]; exact Q.out)⟩
end Go.Proofs.Ytnlaonppgebpoaa

namespace Go.Proofs.Ytnlaonppgebpoaa
open Go.RowKit

/-- rows of a call's own -/
def MR.rows (base : Nat) (rows : List (List Int)) : MR := ⟨fun v w => ∃ nv, RowsM w base v rows nv, fun _ _ _ hb ⟨nv, h⟩ => ⟨nv, h.more hb⟩⟩
set_option maxRecDepth 100000 in
set_option maxHeartbeats 32000000 in
theorem strong_ok (v u : Value) (g : Gr) (en : List (List Bool)) (ag : Int) (w : World) (h : GraphAt w v g) (hu : BRowsAt w u en) (hn : nodesN g ≤ 100000) :
    Calls Try.prog 56 #[v, u, .int .i64 ag] w (IntsBack w (strongL g en ag)) := by
  obtain ⟨sa, aa, ta, sc, ac, tc, rfl, -⟩ := h.var
  have hb := balloc w (.cells #[.slice sa g.S.length sc, .slice aa g.A.length ac, .slice ta g.T.length tc] 26)
  have HB := Lib.hid hb
  have X0 := Lib.hid (heap_alloc_new w (.cells #[.slice sa g.S.length sc, .slice aa g.A.length ac, .slice ta g.T.length tc] 26))
  have HR := Lib.hid (rt_ok _ u g en ag _ (h.below hb) (hu.below hb))
  cases hr : rtB g en ag
  · have E : strongL g en ag = [] := by unfold strongL; rw [hr]; rfl
    rw [hr] at HR
    rw [E]
    clear h hb hu hr E
    go_enter Try.func56, Try.ntmps56
    go_wp2_with (go_at_call 89; refine HR.out.mono ?_; rintro e w1 ⟨rfl, hb1⟩; have HB1 := Lib.hid (HB.out.trans (hb1.mono HB.out.size)); clear hb1)
    go_ret
    exact ⟨_, rfl, intsAt_nil _, HB1.out⟩
  have hRT := rtB_rt hr
  obtain ⟨A, rfl, hA, hrows⟩ := hRT.nat
  have E : strongL g en (A : Nat) = stR g en A (nodesN g) (groupsI g) := by unfold strongL; rw [hr, if_pos rfl, Int.toNat_natCast]
  rw [hr] at HR
  rw [E]
  have hlen := hRT.len
  have HGR := Lib.hid (fun (w' : World) (hb : Below w.heap.size w w') => groupsF_new _ g w' (h.below hb) hn)
  have HSP := Lib.hid (fun (w' : World) (hb : Below w.heap.size w w') (tv pv : Value) (part : List Int) (ht : TabV (.agg #[.slice sa g.S.length sc, .slice aa g.A.length ac, .slice ta g.T.length tc]) u A tv) (hp : IntsAt w' pv part) (hi : InT en part ∧ part.length ≤ nodesN g) =>
    spoilers_ok sp_strong _ u pv tv g en A part w' ht (h.below hb) (hu.below hb) hp hA hrows hi.1 (by omega) (by omega) hRT.wf)
  have HWO : Hid (∀ (w' : World) (_ : Below w.heap.size w w') (tv pv qv : Value) (part : List Int) (_ : TabV (.agg #[.slice sa g.S.length sc, .slice aa g.A.length ac, .slice ta g.T.length tc]) u A tv) (_ : IntsAt w' pv part) (_ : IntsAt w' qv (spK g en spS part A)) (_ : InT en part ∧ part.length ≤ nodesN g),
      Calls Try.prog 95 #[tv, pv, qv] w' (BoolsBack w' (lessL g en A part))) := Lib.hid (fun w' hb tv pv qv part ht hp hq hi => by
    have hsl := spK_len g en spS part A
    have := without_ok _ u pv qv tv en A part (spK g en spS part A) w' ht (hu.below hb) hp hq hrows hi.1 (fun x hx => by
      obtain ⟨a, ha, rfl⟩ := List.mem_map.1 hx
      have := List.mem_range.1 (List.mem_filter.1 ha).1
      omega) (by omega) (by omega) (by omega)
    rwa [wi_less] at this)
  have HLL : Hid (∀ part, (lessL g en A part).length ≤ 1000000) := Lib.hid (fun part => by unfold lessL; rw [tab_len]; omega)
  have HWI := Lib.hid (fun (w' : World) (hb : Below w.heap.size w w') (mv : Value) (l : List Bool) (hl : BoolsAt w' mv l) (hll : l.length ≤ 1000000) => withinF_new _ mv g l w' (h.below hb) hl hll)
  have HPU : Hid (∀ (w2 w0 : World) (C : Nat) (sv lv : Value) (rows new : List (List Int)) (vals nv : List Value), Below w.heap.size w w2 → w2.heap[w.heap.size]? = some (.cells #[.slice sa g.S.length sc, .slice aa g.A.length ac, .slice ta g.T.length tc] 26 (0, 0)) → w2.heap.size = C → PuSt w2 w0 sv rows vals lv new nv → rows.length + new.length ≤ 20000000000 →
      (∀ r ∈ new, r.length ≤ 1000000 ∧ ∀ x ∈ r, (Lit.int .i64 x).wf = true) → Calls Try.prog 93 #[lv, .pointer (some ⟨w.heap.size, 0, none⟩), .pointer (some ⟨C, 0, none⟩)] w0 fun e w' => e = .returned (.tuple #[]) ∧ ∃ sv' vals', PuSt w2 w' sv' (rows ++ (new.filter (cycB g)).reverse) vals' lv new nv) :=
    Lib.hid (fun w2 w0 C sv lv rows new vals nv hb hx hC hp hl hr => push_ok w2 w0 C hC g w.heap.size _ _ _ sv rows vals lv new nv hp hx (h.below hb) hl hr)
  have HWN : Hid (∀ part, ∀ r ∈ withinI g (lessL g en A part), r.length ≤ 1000000 ∧ ∀ x ∈ r, (Lit.int .i64 x).wf = true) := Lib.hid (fun part r hr => by
    have h1 := (withinI_row hr).2.1
    exact ⟨by omega, fun x hx => by have h2 := less_in hr x hx; exact WalkArith.wf_i64 (by omega)⟩)
  have HWC : Hid (∀ l, (withinI g l).length ≤ 100000) := Lib.hid (withinI_len g)
  have HGN : Hid ((groupsI g).length ≤ 100000 ∧ ∀ r ∈ groupsI g, r.length ≤ 1000000 ∧ ∀ x ∈ r, (Lit.int .i64 x).wf = true) := Lib.hid (⟨Nat.le_trans (groupsI_len g) hn, fun r hr => by
    obtain ⟨h1, h2⟩ := groupsI_row hr
    exact ⟨by omega, fun x hx => by have := h2 x hx; exact WalkArith.wf_i64 (by omega)⟩⟩)
  have W0 := Lib.hid (stw_start (g := g) (en := en) (A := A) (by omega) hn)
  have WN0 : Hid (StW g en A [] → stR g en A (nodesN g) (groupsI g) = []) := Lib.hid stw_nil
  have WH : Hid (∀ p rest, StW g en A (p :: rest) → (spK g en spS p A).length = 0 → stR g en A (nodesN g) (groupsI g) = p) := Lib.hid (fun p rest => stw_head)
  have WS : Hid (∀ p rest, StW g en A (p :: rest) → ¬ (spK g en spS p A).length = 0 → StW g en A ((withinI g (lessL g en A p)).filter (cycB g) ++ rest) ∧ work ((withinI g (lessL g en A p)).filter (cycB g) ++ rest) < work (p :: rest)) := Lib.hid (fun p rest => stw_step)
  have WO : Hid (∀ p rest, StW g en A (p :: rest) → (InT en p ∧ p.length ≤ nodesN g) ∧ rest.length + 1 ≤ 100000 * 100001) := Lib.hid (fun p rest h => by
    obtain ⟨h1, h2, -⟩ := h.ok p (List.mem_cons_self ..)
    have h3 := h.fits.len
    have h4 : 100000 * (nodesN g + 1) ≤ 100000 * 100001 := by omega
    simp at h3
    exact ⟨⟨h1, h2⟩, by omega⟩)
  obtain ⟨ua, uc, rfl, -⟩ := hu
  clear h hb hr E hRT hrows hlen
  obtain ⟨SK, hSK⟩ : ∃ f : List Int → List Int, ∀ p, f p = spK g en spS p A := ⟨fun p => spK g en spS p A, fun _ => rfl⟩
  simp only [← hSK] at HSP HWO WH WS
  clear hSK
  generalize stR g en A (nodesN g) (groupsI g) = RES at *
  generalize StW g en A = SW at *
  generalize lessL g en A = LS at *
  generalize withinI g = WN at *
  generalize groupsI g = GI at *
  generalize cycB g = CY at *
  obtain ⟨WK, hWK⟩ : ∃ f : List (List Int) → Nat, work = f := ⟨work, rfl⟩
  rw [hWK] at WS
  clear hWK
  go_enter Try.func56, Try.ntmps56
  go_wp2_with (first
    | (go_at_call 89; refine HR.out.mono ?_; rintro e w1 ⟨rfl, hb1⟩; have HB1 := Lib.hid (HB.out.trans (hb1.mono HB.out.size)); have X1 := Lib.hid (bheap hb1 X0.out); have c0 := cell_of_block X1.out 0 _ rfl; have c1 := cell_of_block X1.out 1 _ rfl; have c2 := cell_of_block X1.out 2 _ rfl; clear hb1)
    | (go_at_call 90; refine (mode_strong _).mono ?_; rintro e w2 ⟨rfl, hb2⟩; unfold modeV; have hbt := balloc w1 (.cells #[.slice sa g.S.length sc, .slice aa g.A.length ac, .slice ta g.T.length tc, .slice ua en.length uc, .int .i64 (A : Nat)] 95); have HB2 := Lib.hid ((HB1.out.trans (hbt.mono HB1.out.size)).trans (hb2.mono (HB1.out.trans (hbt.mono HB1.out.size)).size)); have X2 := Lib.hid (bheap (balloc w2 (.cells #[.func (.func 109) #[] #[]] 91)) (bheap hb2 (bheap hbt X1.out))); have T2 := Lib.hid (bheap (balloc w2 (.cells #[.func (.func 109) #[] #[]] 91)) (bheap hb2 (heap_alloc_new w1 (.cells #[.slice sa g.S.length sc, .slice aa g.A.length ac, .slice ta g.T.length tc, .slice ua en.length uc, .int .i64 (A : Nat)] 95)))); have M2 := Lib.hid (heap_alloc_new w2 (.cells #[.func (.func 109) #[] #[]] 91)); have HB3 := Lib.hid (HB2.out.trans ((balloc w2 (.cells #[.func (.func 109) #[] #[]] 91)).mono HB2.out.size)); have S0 := Lib.hid (sgst_start (w2.alloc (.cells #[.func (.func 109) #[] #[]] 91))); have HB4 := Lib.hid (HB3.out.trans (S0.out.below.mono HB3.out.size)); have hx := bheap S0.out.below X2.out; clear c0 c1 c2; have c0 := cell_of_block hx 0 _ rfl; have c1 := cell_of_block hx 1 _ rfl; have c2 := cell_of_block hx 2 _ rfl; clear hb2 hbt hx)
    | (go_at_call 46; refine (HGR.out _ HB4.out).mono ?_; rintro e w4 ⟨rv, rfl, ⟨nv, hrm⟩, hb4⟩; have P4 := Lib.hid (S0.out.with hb4 hrm (Nat.le_refl _)); clear hrm hb4)
    | (go_at_call 93; refine (HPU.out _ w4 (w2.heap.size + 1) _ _ [] GI _ _ HB3.out X2.out (by simp) P4.out (by have := HGN.out.1; simp; omega) HGN.out.2).mono ?_; rintro e w5 ⟨rfl, sv5, vals5, hp5⟩; have S5 := Lib.hid hp5.toSgSt; clear hp5))
  clear c0 c1 c2 S0 P4
  go_loopg [12] (WK (GI.filter CY)) (fun fu _c wr => ∃ (rows : List (List Int)) (sv : Value) (vals : List Value), fu = WK rows.reverse ∧ Hid (SW rows.reverse) ∧ Hid (SgSt (w2.alloc (.cells #[.func (.func 109) #[] #[]] 91)) wr sv rows vals))
  case atStart => exact ⟨(GI.filter CY).reverse, sv5, vals5, by rw [List.reverse_reverse], Lib.hid (by rw [List.reverse_reverse]; exact W0.out), by simpa using S5⟩
  case round =>
    clear S5 W0
    obtain ⟨rows, sv, vals, hfu, HW, HS⟩ := hrel
    have HFU := Lib.hid hfu
    clear hfu
    have HBW := Lib.hid (HB3.out.trans (HS.out.below.mono HB3.out.size))
    rcases List.eq_nil_or_concat rows with rfl | ⟨rows0, r, rfl⟩
    · have E := Lib.hid (WN0.out HW.out)
      obtain ⟨va, vc, rfl⟩ := own_var HS.out.stk.out
      have cst := cell_of_block HS.out.cell 0 _ rfl
      rw [show (w2.alloc (.cells #[.func (.func 109) #[] #[]] 91)).heap.size = w2.heap.size + 1 by simp] at cst
      have z : ¬ (0 : Int) < (([] : List (List Int)).length : Int) := by simp
      go_wp2_with fail
      go_ret
      exact ⟨_, rfl, by rw [E.out]; exact intsAt_nil _, HBW.out⟩
    · rw [List.concat_eq_append] at HW HFU HS
      rw [List.reverse_append] at HW HFU
      have HW2 := Lib.hid (show SW (r :: rows0.reverse) from HW.out)
      have HFU2 := Lib.hid (show _ = WK (r :: rows0.reverse) from HFU.out)
      clear HW HFU
      obtain ⟨gk, cap, rfl, hlc, hcm, pv, hcell, hp0, hp1, hs1⟩ := HS.out.pop (C := w2.heap.size + 1) (by simp)
      obtain ⟨m, hm⟩ : ∃ m, rows0.length = m := ⟨_, rfl⟩
      have HM := Lib.hid hm
      rw [hm] at hlc hcell hp1 hs1 HS
      have hcst := HS.out.cell
      rw [show (w2.alloc (.cells #[.func (.func 109) #[] #[]] 91)).heap.size = w2.heap.size + 1 by simp] at hcst
      have cst := cell_of_block hcst 0 _ rfl
      have fst := free_of_block hcst 0
      obtain ⟨pa, pc, rfl, -⟩ := hp0
      have S1 := Lib.hid hs1
      have HP1 := Lib.hid hp1
      have HOR := Lib.hid (WO.out _ _ HW2.out)
      have HBW1 := Lib.hid (HB3.out.trans (hs1.below.mono HB3.out.size))
      have HSPR := Lib.hid (HSP.out _ HBW1.out (.agg #[.slice sa g.S.length sc, .slice aa g.A.length ac, .slice ta g.T.length tc, .slice ua en.length uc, .int .i64 (A : Nat)]) _ r ⟨_, _, _, rfl, rfl⟩ hp1 HOR.out.1)
      have hx := bheap hs1.below X2.out
      have hy := bheap hs1.below T2.out
      have hz := bheap hs1.below M2.out
      have t0 := cell_of_block hy 0 _ rfl
      have t1 := cell_of_block hy 1 _ rfl
      have t2 := cell_of_block hy 2 _ rfl
      have t3 := cell_of_block hy 3 _ rfl
      have t4 := cell_of_block hy 4 _ rfl
      have m0 := cell_of_block hz 0 _ rfl
      have HX := Lib.hid hx
      have HY := Lib.hid hy
      unfold maxLen at hcm
      clear hs1 hp1 hx hy hz hcst hm HS
      by_cases hsk : (SK r).length = 0
      · have E := Lib.hid (WH.out _ _ HW2.out hsk)
        go_wp2_with (go_at_call 94; refine HSPR.out.mono ?_; rintro e w6 ⟨qv, rfl, ⟨qa, qc, rfl, -⟩, hb6⟩; have HP6 := Lib.hid (HP1.out.below hb6); have HB6 := Lib.hid (HBW1.out.trans (hb6.mono HBW1.out.size)); clear hb6)
        go_ret
        exact ⟨_, rfl, by rw [E.out]; exact HP6.out, HB6.out⟩
      · have hs2 : (((SK r).length : Int) == 0) = false := by simp [hsk]
        have ST := Lib.hid (WS.out _ _ HW2.out hsk)
        go_wp2_with (go_at_call 94; refine HSPR.out.mono ?_; rintro e w6 ⟨qv, rfl, hq6, hb6⟩; obtain ⟨qa, qc, rfl, -⟩ := id hq6; have HQ6 := Lib.hid hq6; have HP6 := Lib.hid (HP1.out.below hb6); have HB6 := Lib.hid (HBW1.out.trans (hb6.mono HBW1.out.size)); have S6 := Lib.hid (S1.out.more hb6); have HX6 := Lib.hid (bheap hb6 HX.out); have HY6 := Lib.hid (bheap hb6 HY.out); clear hb6 hq6)
        clear t0 t1 t2 t3 t4 m0 cst fst hcell S1 HP1 HSPR
        have x0 := cell_of_block HX6.out 0 _ rfl
        have x1 := cell_of_block HX6.out 1 _ rfl
        have x2 := cell_of_block HX6.out 2 _ rfl
        have y0 := cell_of_block HY6.out 0 _ rfl
        have y1 := cell_of_block HY6.out 1 _ rfl
        have y2 := cell_of_block HY6.out 2 _ rfl
        have y3 := cell_of_block HY6.out 3 _ rfl
        have y4 := cell_of_block HY6.out 4 _ rfl
        refine region_rel_tail 7 (fun q => match q with | 54 => u54 | 55 => u55 | 56 => u56 | 57 => u57 | 58 => u58 | 59 => u59 | 60 => u60 | _ => undef)
          (fun f => { tmps := #[.agg #[.slice sa g.S.length sc, .slice aa g.A.length ac, .slice ta g.T.length tc], .slice ua en.length uc, .int .i64 (A : Nat), .pointer (some ⟨w.heap.size, 0, none⟩), undef, undef, u6, .pointer (some ⟨w1.heap.size, 0, none⟩), .pointer (some ⟨w2.heap.size, 0, none⟩), .bool true, .pointer (some ⟨w2.heap.size + 1, 0, none⟩), .func (.func 93) #[] #[.pointer (some ⟨w.heap.size, 0, none⟩), .pointer (some ⟨w2.heap.size + 1, 0, none⟩)], .slice pa r.length pc, .slice qa (SK r).length qc, .agg #[.slice sa g.S.length sc, .slice aa g.A.length ac, .slice ta g.T.length tc], .slice ua en.length uc, .int .i64 (A : Nat), .bool true, .bool false, .agg #[.slice sa g.S.length sc, .slice aa g.A.length ac, .slice ta g.T.length tc], .slice ua en.length uc, .int .i64 (A : Nat), .agg #[.slice sa g.S.length sc, .slice aa g.A.length ac, .slice ta g.T.length tc, .slice ua en.length uc, .int .i64 (A : Nat)], .tuple #[.agg #[.func (.func 109) #[] #[]], .bool true], .tuple #[.agg #[.func (.func 109) #[] #[]], .bool true], .agg #[.func (.func 109) #[] #[]], .bool true, .func (.func 93) #[] #[.pointer (some ⟨w.heap.size, 0, none⟩), .pointer (some ⟨w2.heap.size + 1, 0, none⟩)], .func (.func 93) #[] #[.pointer (some ⟨w.heap.size, 0, none⟩), .pointer (some ⟨w2.heap.size + 1, 0, none⟩)], .agg #[.slice sa g.S.length sc, .slice aa g.A.length ac, .slice ta g.T.length tc], rv, .tuple #[], .slice (some ⟨gk, 0, none⟩) (m + 1) cap, .int .i64 ((m : Int) + 1), .bool true, .slice (some ⟨gk, 0, none⟩) (m + 1) cap, .slice (some ⟨gk, 0, none⟩) (m + 1) cap, .int .i64 ((m : Int) + 1), .int .i64 (m : Nat), .pointer (some ⟨gk, m, none⟩), .slice pa r.length pc, .slice (some ⟨gk, 0, none⟩) (m + 1) cap, .slice (some ⟨gk, 0, none⟩) (m + 1) cap, .int .i64 ((m : Int) + 1), .int .i64 (m : Nat), .slice (some ⟨gk, 0, none⟩) m cap, .agg #[.slice sa g.S.length sc, .slice aa g.A.length ac, .slice ta g.T.length tc, .slice ua en.length uc, .int .i64 (A : Nat)], .agg #[.func (.func 109) #[] #[]], .slice pa r.length pc, .slice qa (SK r).length qc, .slice qa (SK r).length qc, .int .i64 ((SK r).length : Nat), .bool false, u53, f 54, f 55, f 56, f 57, f 58, f 59, f 60, u61], defers := [] }) (fun j => j + 54)
          (relM [.of (.eq (.func (.func 93) #[] #[.pointer (some ⟨w.heap.size, 0, none⟩), .pointer (some ⟨w2.heap.size + 1, 0, none⟩)])), .of (.eq (.agg #[.slice sa g.S.length sc, .slice aa g.A.length ac, .slice ta g.T.length tc])), .of (.eq (.agg #[.slice sa g.S.length sc, .slice aa g.A.length ac, .slice ta g.T.length tc, .slice ua en.length uc, .int .i64 (A : Nat)])), .of (.eq (.slice pa r.length pc)), .of (.eq (.slice qa (SK r).length qc)), .of (.bools (LS r)), .rows w6.heap.size (WN (LS r))])
          rfl (by kernel_rfl) (by kernel_rfl) (by kernel_rfl) (by decide) (by kernel_rfl) (fun i u w w' hb h => relM_mono hb h) (by kernel_rfl) (by kernel_rfl) ?_ ?_ ?_
        · intro j hj f v
          rcases j with _ | _ | _ | _ | _ | _ | _ | j
          all_goals first | rfl | omega | (simp at hj; omega)
        · refine ⟨?_, ?_, ?_, ?_, ?_, ?_, ?_, trivial⟩
          · intro f w' hb hd K hK
            dsimp only
            go_simp
            exact hK (.func (.func 93) #[] #[.pointer (some ⟨w.heap.size, 0, none⟩), .pointer (some ⟨w2.heap.size + 1, 0, none⟩)]) w' (Below.refl _ _) rfl
          · intro f w' hb hd K hK
            have e0 := bkeep hb x0
            have e1 := bkeep hb x1
            have e2 := bkeep hb x2
            dsimp only
            go_simp
            exact hK (.agg #[.slice sa g.S.length sc, .slice aa g.A.length ac, .slice ta g.T.length tc]) w' (Below.refl _ _) rfl
          · intro f w' hb hd K hK
            have e0 := bkeep hb y0
            have e1 := bkeep hb y1
            have e2 := bkeep hb y2
            have e3 := bkeep hb y3
            have e4 := bkeep hb y4
            dsimp only
            go_simp
            exact hK (.agg #[.slice sa g.S.length sc, .slice aa g.A.length ac, .slice ta g.T.length tc, .slice ua en.length uc, .int .i64 (A : Nat)]) w' (Below.refl _ _) rfl
          · intro f w' hb hd K hK
            dsimp only
            go_simp
            exact hK (.slice pa r.length pc) w' (Below.refl _ _) rfl
          · intro f w' hb hd K hK
            dsimp only
            go_simp
            exact hK (.slice qa (SK r).length qc) w' (Below.refl _ _) rfl
          · intro f w' hb hd K hK
            have h0 : f 56 = (.agg #[.slice sa g.S.length sc, .slice aa g.A.length ac, .slice ta g.T.length tc, .slice ua en.length uc, .int .i64 (A : Nat)]) := hd 2 (by kernel_rfl)
            have h1 : f 57 = (.slice pa r.length pc) := hd 3 (by kernel_rfl)
            have h2 : f 58 = (.slice qa (SK r).length qc) := hd 4 (by kernel_rfl)
            have HO := Lib.hid (HWO.out w' (HB6.out.trans (((Below.refl _ w6).drew.trans hb).mono HB6.out.size)) _ _ _ r ⟨_, _, _, rfl, rfl⟩ (HP6.out.below ((Below.refl _ w6).drew.trans hb)) (HQ6.out.below ((Below.refl _ w6).drew.trans hb)) HOR.out.1)
            dsimp only
            go_simp
            go_wp2_with (go_at_call 95; refine HO.out.mono ?_; rintro e w2 ⟨lv, rfl, hE, hb2⟩)
            have q := hK lv w2 hb2 hE
            simp only [h0, h1, h2] at q
            exact q
          · intro f w' hb hd K hK
            have h0 : f 55 = (.agg #[.slice sa g.S.length sc, .slice aa g.A.length ac, .slice ta g.T.length tc]) := hd 1 (by kernel_rfl)
            have h3 : BoolsAt w' (f 59) (LS r) := hd 5 (by kernel_rfl)
            have HO := Lib.hid (HWI.out w' (HB6.out.trans (((Below.refl _ w6).drew.trans hb).mono HB6.out.size)) (f 59) (LS r) h3 (HLL.out r))
            clear h3
            have hsz := hb.size
            dsimp only
            go_simp
            go_wp2_with (go_at_call 48; refine HO.out.mono ?_; rintro e w8 ⟨lv, rfl, ⟨nv8, hE⟩, hb2⟩)
            have q := hK lv w8 hb2 ⟨nv8, hE.base hsz⟩
            simp only [h0] at q
            exact q
        intro f w7 hb7 hr7
        have q54 : f 54 = (.func (.func 93) #[] #[.pointer (some ⟨w.heap.size, 0, none⟩), .pointer (some ⟨w2.heap.size + 1, 0, none⟩)]) := hr7 0 (by decide)
        have q55 : f 55 = (.agg #[.slice sa g.S.length sc, .slice aa g.A.length ac, .slice ta g.T.length tc]) := hr7 1 (by decide)
        have q56 : f 56 = (.agg #[.slice sa g.S.length sc, .slice aa g.A.length ac, .slice ta g.T.length tc, .slice ua en.length uc, .int .i64 (A : Nat)]) := hr7 2 (by decide)
        have q57 : f 57 = (.slice pa r.length pc) := hr7 3 (by decide)
        have q58 : f 58 = (.slice qa (SK r).length qc) := hr7 4 (by decide)
        obtain ⟨nv7, hrm7⟩ : ∃ nv7, RowsM w7 w6.heap.size (f 60) (WN (LS r)) nv7 := hr7 6 (by decide)
        have P7 := Lib.hid (S6.out.with hb7 hrm7 (Nat.le_refl _))
        have HBD : Hid (rows0.length + (WN (LS r)).length ≤ 20000000000) := Lib.hid (by have h1 := HOR.out.2; have h2 := HWC.out (LS r); rw [List.length_reverse] at h1; omega)
        simp only [q54, q55, q56, q57, q58, List.drop_succ_cons, List.drop_zero]
        clear hr7 hrm7 hb7 q54 q55 q56 q57 q58
        generalize f 60 = lv7 at *
        generalize f 59 = lv6 at *
        go_wp2_with (go_at_call 93; refine (HPU.out _ w7 (w2.heap.size + 1) _ _ rows0 (WN (LS r)) _ _ HB3.out X2.out (by simp) P7.out HBD.out (HWN.out r)).mono ?_; rintro e w8 ⟨rfl, sv8, vals8, hp8⟩; have S8 := Lib.hid hp8.toSgSt; clear hp8)
        go_roundg (WK (rows0 ++ ((WN (LS r)).filter CY).reverse).reverse)
        case measure => have h1 := HFU2.out; have h2 := ST.out.2; rw [List.reverse_append, List.reverse_reverse]; omega
        case rel => exact ⟨rows0 ++ ((WN (LS r)).filter CY).reverse, sv8, vals8, rfl, Lib.hid (by rw [List.reverse_append, List.reverse_reverse]; exact ST.out.1), S8⟩
end Go.Proofs.Ytnlaonppgebpoaa

namespace Go.Proofs.Ytnlaonppgebpoaa
open Go.RowKit

set_option maxRecDepth 100000 in
set_option maxHeartbeats 16000000 in
theorem rstrong_walk (SUB : List Int → List Int) (v u iv : Value) (g : Gr) (en : List (List Bool)) (A : Nat) (inl : List Bool) (w : World) (h : GraphAt w v g) (hu : BRowsAt w u en) (hiv : BoolsAt w iv inl) (hA : A ≤ 100)
    (hrows : ∀ i, i < en.length → (en.getD i []).length = A) (hel : en.length ≤ 1000000) (hil : inl.length = en.length)
    (IH : ∀ l ∈ withinI g inl, cycB g l = true → fairB g en spS A l = false → ∀ (w' : World) (nv : Value), Below w.heap.size w w' → BoolsAt w' nv (lessL g en A l) → Calls Try.prog 96 #[v, u, .int .i64 (A : Nat), nv] w' (IntsBack w' (SUB l))) :
    Calls Try.prog 96 #[v, u, .int .i64 (A : Nat), iv] w (IntsBack w (pickR g en A SUB (withinI g inl))) := by
  have hW : ∀ r ∈ withinI g inl, r.length ≤ 100000 ∧ ∀ x ∈ r, 0 ≤ x ∧ x < (en.length : Int) := fun r hr => by
    obtain ⟨-, h1, h2⟩ := withinI_row hr
    refine ⟨h1, fun x hx => ?_⟩
    obtain ⟨i, rfl, h3, -⟩ := h2 x hx
    omega
  obtain ⟨sa, aa, ta, sc, ac, tc, rfl, -⟩ := h.var
  have hb := balloc w (.cells #[.slice sa g.S.length sc, .slice aa g.A.length ac, .slice ta g.T.length tc] 26)
  have HB := Lib.hid hb
  have X0 := Lib.hid (heap_alloc_new w (.cells #[.slice sa g.S.length sc, .slice aa g.A.length ac, .slice ta g.T.length tc] 26))
  have HWI : Hid (Calls Try.prog 49 #[.agg #[.slice sa g.S.length sc, .slice aa g.A.length ac, .slice ta g.T.length tc], iv] (w.alloc (.cells #[.slice sa g.S.length sc, .slice aa g.A.length ac, .slice ta g.T.length tc] 26)) (RowsBack (w.alloc (.cells #[.slice sa g.S.length sc, .slice aa g.A.length ac, .slice ta g.T.length tc] 26)) (withinI g inl))) := Lib.hid (by rw [within_eq]; exact rwithinF_ok _ iv g inl _ (h.below hb) (hiv.below hb) (by omega))
  have HC := Lib.hid (fun (w' : World) (hb : Below w.heap.size w w') (pv : Value) (part : List Int) (hp : IntsAt w' pv part) (hi : part.length ≤ 100000 ∧ ∀ x ∈ part, 0 ≤ x ∧ x < (en.length : Int)) => rcyc_ok _ pv g part w' (h.below hb) hp (by omega))
  have HF := Lib.hid (fun (w' : World) (hb : Below w.heap.size w w') (pv : Value) (part : List Int) (hp : IntsAt w' pv part) (hi : part.length ≤ 100000 ∧ ∀ x ∈ part, 0 ≤ x ∧ x < (en.length : Int)) =>
    rfair_strong _ u pv g en A part w' (h.below hb) (hu.below hb) hp hA hrows hi.2 hel (by omega))
  have HL := Lib.hid (fun (w' : World) (hb : Below w.heap.size w w') (pv : Value) (part : List Int) (hp : IntsAt w' pv part) (hi : part.length ≤ 100000 ∧ ∀ x ∈ part, 0 ≤ x ∧ x < (en.length : Int)) =>
    less_ok _ u pv g en A part w' (h.below hb) (hu.below hb) hp hA hrows hi.2 hel (by omega))
  have HIH := Lib.hid (fun k (hk : k < (withinI g inl).length) => IH _ (mem_getD hk))
  have HW := Lib.hid (fun k (hk : k < (withinI g inl).length) => hW _ (mem_getD hk))
  have GL := withinI_len g inl
  have HD := Lib.hid (fun k (hk : k < (withinI g inl).length) => drop_at hk)
  have PS := Lib.hid (fun l rest (h : cycB g l = false) => pickR_skip (en := en) (A := A) (SUB := SUB) (rest := rest) h)
  have PF := Lib.hid (fun l rest (h : cycB g l = true) (h2 : fairB g en spS A l = true) => pickR_fair (SUB := SUB) (rest := rest) h h2)
  have PU := Lib.hid (fun l rest (h : cycB g l = true) (h2 : fairB g en spS A l = false) (h3 : 0 < (SUB l).length) => pickR_sub (rest := rest) h h2 h3)
  have PN := Lib.hid (fun l rest (h : cycB g l = true) (h2 : fairB g en spS A l = false) (h3 : ¬ 0 < (SUB l).length) => pickR_next (rest := rest) h h2 h3)
  have P0 : Hid (pickR g en A SUB [] = []) := Lib.hid rfl
  obtain ⟨ua, uc, rfl, -⟩ := hu
  obtain ⟨ia, ic, rfl, -⟩ := hiv
  clear h hb hrows IH hW hil
  generalize withinI g inl = rows at *
  generalize pickR g en A SUB = PK at *
  generalize fairB g en spS A = FB at *
  generalize cycB g = CY at *
  generalize lessL g en A = LS at *
  go_enter Try.func96, Try.ntmps96
  go_wp2_with (first
    | (go_at_call 49; refine HWI.out.mono ?_; rintro e w3 ⟨rv, rfl, hr3, hb3⟩; obtain ⟨ra, rc, rfl, hr3⟩ := hr3; have HRW := Lib.hid hr3; have HB4 := Lib.hid (HB.out.trans (hb3.mono HB.out.size)); have X3 := Lib.hid (bheap hb3 X0.out); clear hb3 hr3))
  clear HWI
  go_loopg [10] rows.length (fun fu c wr => ∃ k : Nat, k + fu = rows.length ∧ c = .int .i64 k ∧ Hid (PK rows = PK (rows.drop k)) ∧ Hid (Below w3.heap.size w3 wr))
  case atStart => exact ⟨0, by omega, rfl, Lib.hid rfl, Lib.hid (Below.refl _ _)⟩
  case round =>
    obtain ⟨k, hk, rfl, HPK, HBR⟩ := hrel
    by_cases hlt : k < rows.length
    · have z1 : (k : Int) < (rows.length : Int) := by omega
      obtain ⟨b1, o1, pv, rfl, d1, hp⟩ := HRW.out k hlt
      have hi := HW.out k hlt
      have HDK := Lib.hid (HD.out k hlt)
      have y1 := bkeep HBR.out d1
      have hx := bheap HBR.out X3.out
      have c0 := cell_of_block hx 0 _ rfl
      have c1 := cell_of_block hx 1 _ rfl
      have c2 := cell_of_block hx 2 _ rfl
      have HBW := Lib.hid (HB4.out.trans (HBR.out.mono HB4.out.size))
      have HPV := Lib.hid (hp.below HBR.out)
      have HCC := Lib.hid (fun (i : Sub wr) => HC.out i.1 (HBW.out.trans (i.2.mono HBW.out.size)) pv (rows.getD k []) (HPV.out.below i.2) hi)
      have HFF := Lib.hid (fun (w' : World) (hw : Below wr.heap.size wr w') => HF.out w' (HBW.out.trans (hw.mono HBW.out.size)) pv (rows.getD k []) (HPV.out.below hw) hi)
      have HLL := Lib.hid (fun (w' : World) (hw : Below wr.heap.size wr w') => HL.out w' (HBW.out.trans (hw.mono HBW.out.size)) pv (rows.getD k []) (HPV.out.below hw) hi)
      have HII := Lib.hid (HIH.out k hlt)
      clear d1 hx hp hi
      generalize rows.getD k [] = part at *
      obtain ⟨pa, pc, rfl, hpp⟩ := HPV.out
      have HPP := Lib.hid hpp
      clear hpp
      have f0 : ∀ i : Sub wr, i.1.cell? ⟨w.heap.size, 0, none⟩ = some (.slice sa g.S.length sc) := fun i => i.cell c0
      have f1 : ∀ i : Sub wr, i.1.cell? ⟨w.heap.size, 1, none⟩ = some (.slice aa g.A.length ac) := fun i => i.cell c1
      have f2 : ∀ i : Sub wr, i.1.cell? ⟨w.heap.size, 2, none⟩ = some (.slice ta g.T.length tc) := fun i => i.cell c2
      have f3 : ∀ i : Sub wr, i.1.cell? ⟨b1, o1 + k, none⟩ = some (.slice pa part.length pc) := fun i => i.cell y1
      cases hc : CY part
      · rw [hc] at HCC
        have E : Hid (PK rows = PK (rows.drop (k + 1))) := Lib.hid (by rw [HPK.out, HDK.out]; exact PS.out _ _ hc)
        go_wp2_with fail
        refine region_below (by kernel_rfl) (by kernel_rfl) ?_
        repeat (go_big_quiet_step ((go_at_call 51; exact Calls.sub_of (HCC.out _))))
        refine wpQuiet_nil ?_
        intro w4 hb4
        have HB5 := Lib.hid (HBR.out.trans (hb4.mono HBR.out.size))
        clear hb4
        go_wp2_with fail
        go_roundg (rows.length - (k + 1))
        case measure => omega
        case rel => exact ⟨k + 1, by omega, by simp, E, HB5⟩
      · rw [hc] at HCC
        go_wp2_with fail
        refine region_below (by kernel_rfl) (by kernel_rfl) ?_
        repeat (go_big_quiet_step ((go_at_call 51; exact Calls.sub_of (HCC.out _))))
        refine wpQuiet_nil ?_
        intro w4 hb4
        have HB5 := Lib.hid (HBR.out.trans (hb4.mono HBR.out.size))
        have HP5 := Lib.hid (HPV.out.below hb4)
        have HFF2 := Lib.hid (fun (i : Sub w4) => HFF.out i.1 (hb4.trans (i.2.mono hb4.size)))
        have HLL2 := Lib.hid (fun (w' : World) (hw : Below w4.heap.size w4 w') => HLL.out w' (hb4.trans (hw.mono hb4.size)))
        have y4 := bkeep hb4 y1
        have d0 := bkeep hb4 c0
        have d1 := bkeep hb4 c1
        have d2 := bkeep hb4 c2
        have HBW4 := Lib.hid (HBW.out.trans (hb4.mono HBW.out.size))
        clear hb4 f0 f1 f2 f3 c0 c1 c2 y1
        have f0 : ∀ i : Sub w4, i.1.cell? ⟨w.heap.size, 0, none⟩ = some (.slice sa g.S.length sc) := fun i => i.cell d0
        have f1 : ∀ i : Sub w4, i.1.cell? ⟨w.heap.size, 1, none⟩ = some (.slice aa g.A.length ac) := fun i => i.cell d1
        have f2 : ∀ i : Sub w4, i.1.cell? ⟨w.heap.size, 2, none⟩ = some (.slice ta g.T.length tc) := fun i => i.cell d2
        have f3 : ∀ i : Sub w4, i.1.cell? ⟨b1, o1 + k, none⟩ = some (.slice pa part.length pc) := fun i => i.cell y4
        cases hf : FB part
        · rw [hf] at HFF2
          go_wp2_with fail
          refine region_below (by kernel_rfl) (by kernel_rfl) ?_
          repeat (go_big_quiet_step ((go_at_call 92; exact Calls.sub_of (HFF2.out _))))
          refine wpQuiet_nil ?_
          intro w5 hb5
          have HB6 := Lib.hid (HB5.out.trans (hb5.mono HB5.out.size))
          have HP6 := Lib.hid (HP5.out.below hb5)
          have HLL3 := Lib.hid (fun (w' : World) (hw : Below w5.heap.size w5 w') => HLL2.out w' (hb5.trans (hw.mono hb5.size)))
          have HBW5 := Lib.hid (HBW4.out.trans (hb5.mono HBW4.out.size))
          have y5 := bkeep hb5 y4
          have e0 := bkeep hb5 d0
          have e1 := bkeep hb5 d1
          have e2 := bkeep hb5 d2
          clear hb5 f0 f1 f2 f3 d0 d1 d2 y4
          go_wp2_with fail
          refine region_rel (fun q => match q with | 11 => u11 | 40 => u40 | 41 => u41 | 42 => u42 | 43 => u43 | 44 => u44 | 45 => u45 | 46 => u46 | 47 => u47 | 48 => u48 | 49 => u49 | 50 => u50 | 51 => u51 | _ => undef)
            (fun f => { tmps := #[.agg #[.slice sa g.S.length sc, .slice aa g.A.length ac, .slice ta g.T.length tc], .slice ua en.length uc, .int .i64 (A : Nat), .slice ia inl.length ic, .pointer (some ⟨w.heap.size, 0, none⟩), undef, undef, undef, u8, .slice (some ⟨b1, o1, none⟩) rows.length rc, .int .i64 (k : Nat), f 11, .agg #[.slice sa g.S.length sc, .slice aa g.A.length ac, .slice ta g.T.length tc], .slice ia inl.length ic, .slice (some ⟨b1, o1, none⟩) rows.length rc, .int .i64 (k : Nat), .slice (some ⟨b1, o1, none⟩) rows.length rc, .int .i64 (rows.length : Nat), .bool true, u19, u20, .agg #[.slice sa g.S.length sc, .slice aa g.A.length ac, .slice ta g.T.length tc], .slice (some ⟨b1, o1, none⟩) rows.length rc, .int .i64 (k : Nat), .pointer (some ⟨b1, o1 + k, none⟩), .slice pa part.length pc, .bool true, .bool false, .agg #[.slice sa g.S.length sc, .slice aa g.A.length ac, .slice ta g.T.length tc], .slice ua en.length uc, .int .i64 (A : Nat), .slice (some ⟨b1, o1, none⟩) rows.length rc, .int .i64 (k : Nat), .pointer (some ⟨b1, o1 + k, none⟩), .slice pa part.length pc, .bool false, u36, u37, u38, u39, f 40, f 41, f 42, f 43, f 44, f 45, f 46, f 47, f 48, f 49, f 50, f 51, u52, u53, u54, u55], defers := [] }) (fun j => if j = 12 then 11 else j + 40)
            (relL [.eq (.agg #[.slice sa g.S.length sc, .slice aa g.A.length ac, .slice ta g.T.length tc]), .eq (.slice ua en.length uc), .eq (.int .i64 (A : Nat)), .eq (.agg #[.slice sa g.S.length sc, .slice aa g.A.length ac, .slice ta g.T.length tc]), .eq (.slice ua en.length uc), .eq (.int .i64 (A : Nat)), .eq (.slice (some ⟨b1, o1, none⟩) rows.length rc), .eq (.int .i64 (k : Nat)), .eq (.pointer (some ⟨b1, o1 + k, none⟩)), .eq (.slice pa part.length pc), .bools (LS part), .ints (SUB part), .ints (SUB part)])
            rfl (by kernel_rfl) (fun i u w w' hb h => RK.mono _ hb h) (by kernel_rfl) (by kernel_rfl) ?_ ?_ ?_
          · intro j hj f v
            rcases j with _ | _ | _ | _ | _ | _ | _ | _ | _ | _ | _ | _ | _ | j
            all_goals first | rfl | (simp at hj; omega)
          · refine ⟨?_, ?_, ?_, ?_, ?_, ?_, ?_, ?_, ?_, ?_, ?_, ?_, ?_, trivial⟩
            · intro f w' hb hd K hK
              have e0 := bkeep hb e0
              have e1 := bkeep hb e1
              have e2 := bkeep hb e2
              dsimp only
              go_simp
              exact hK (.agg #[.slice sa g.S.length sc, .slice aa g.A.length ac, .slice ta g.T.length tc]) w' (Below.refl _ _) rfl
            · intro f w' hb hd K hK
              dsimp only
              go_simp
              exact hK (.slice ua en.length uc) w' (Below.refl _ _) rfl
            · intro f w' hb hd K hK
              dsimp only
              go_simp
              exact hK (.int .i64 (A : Nat)) w' (Below.refl _ _) rfl
            · intro f w' hb hd K hK
              have e0 := bkeep hb e0
              have e1 := bkeep hb e1
              have e2 := bkeep hb e2
              dsimp only
              go_simp
              exact hK (.agg #[.slice sa g.S.length sc, .slice aa g.A.length ac, .slice ta g.T.length tc]) w' (Below.refl _ _) rfl
            · intro f w' hb hd K hK
              dsimp only
              go_simp
              exact hK (.slice ua en.length uc) w' (Below.refl _ _) rfl
            · intro f w' hb hd K hK
              dsimp only
              go_simp
              exact hK (.int .i64 (A : Nat)) w' (Below.refl _ _) rfl
            · intro f w' hb hd K hK
              dsimp only
              go_simp
              exact hK (.slice (some ⟨b1, o1, none⟩) rows.length rc) w' (Below.refl _ _) rfl
            · intro f w' hb hd K hK
              dsimp only
              go_simp
              exact hK (.int .i64 (k : Nat)) w' (Below.refl _ _) rfl
            · intro f w' hb hd K hK
              have h0 : f 46 = (.slice (some ⟨b1, o1, none⟩) rows.length rc) := hd 6 (by kernel_rfl)
              have h1 : f 47 = (.int .i64 (k : Nat)) := hd 7 (by kernel_rfl)
              dsimp only
              go_simp
              have q := hK (.pointer (some ⟨b1, o1 + k, none⟩)) w' (Below.refl _ _) rfl
              simp only [h0, h1] at q
              exact q
            · intro f w' hb hd K hK
              have h0 : f 48 = (.pointer (some ⟨b1, o1 + k, none⟩)) := hd 8 (by kernel_rfl)
              have e5 := bkeep hb y5
              dsimp only
              go_simp
              have q := hK (.slice pa part.length pc) w' (Below.refl _ _) rfl
              simp only [h0] at q
              exact q
            · intro f w' hb hd K hK
              have h0 : f 43 = (.agg #[.slice sa g.S.length sc, .slice aa g.A.length ac, .slice ta g.T.length tc]) := hd 3 (by kernel_rfl)
              have h1 : f 44 = (.slice ua en.length uc) := hd 4 (by kernel_rfl)
              have h2 : f 45 = (.int .i64 (A : Nat)) := hd 5 (by kernel_rfl)
              have h3 : f 49 = (.slice pa part.length pc) := hd 9 (by kernel_rfl)
              have HO := Lib.hid (HLL3.out w' ((Below.refl _ w5).drew.trans hb))
              dsimp only
              go_simp
              go_wp2_with (go_at_call 111; refine HO.out.mono ?_; rintro e w2 ⟨lv, rfl, hE, hb2⟩)
              have q := hK lv w2 hb2 hE
              simp only [h0, h1, h2, h3] at q
              exact q
            · intro f w' hb hd K hK
              have h0 : f 40 = (.agg #[.slice sa g.S.length sc, .slice aa g.A.length ac, .slice ta g.T.length tc]) := hd 0 (by kernel_rfl)
              have h1 : f 41 = (.slice ua en.length uc) := hd 1 (by kernel_rfl)
              have h2 : f 42 = (.int .i64 (A : Nat)) := hd 2 (by kernel_rfl)
              have h3 : BoolsAt w' (f 50) (LS part) := hd 10 (by kernel_rfl)
              have HO := Lib.hid (HII.out hc hf w' (f 50) (HBW5.out.trans (((Below.refl _ w5).drew.trans hb).mono HBW5.out.size)) h3)
              clear h3
              dsimp only
              go_simp
              go_wp2_with (go_at_call 96; refine HO.out.mono ?_; rintro e w2 ⟨lv, rfl, hE, hb2⟩)
              have q := hK lv w2 hb2 hE
              simp only [h0, h1, h2] at q
              exact q
            · intro f w' hb hd K hK
              have hE : IntsAt w' (f 51) (SUB part) := hd 11 (by kernel_rfl)
              dsimp only
              go_simp
              exact hK (f 51) w' (Below.refl _ _) hE
          · intro f w' hb hr
            have HB7 := Lib.hid (HB6.out.trans (hb.mono HB6.out.size))
            obtain ⟨xa, xc, hxe, hxc⟩ : IntsAt w' (f 11) (SUB part) := hr 12 (by decide)
            have HX : Hid (IntsAt w' (.slice xa (SUB part).length xc) (SUB part)) := Lib.hid ⟨xa, xc, rfl, hxc⟩
            have q0 : f 40 = (.agg #[.slice sa g.S.length sc, .slice aa g.A.length ac, .slice ta g.T.length tc]) := hr 0 (by decide)
            have q1 : f 41 = (.slice ua en.length uc) := hr 1 (by decide)
            have q2 : f 42 = (.int .i64 (A : Nat)) := hr 2 (by decide)
            have q3 : f 43 = (.agg #[.slice sa g.S.length sc, .slice aa g.A.length ac, .slice ta g.T.length tc]) := hr 3 (by decide)
            have q4 : f 44 = (.slice ua en.length uc) := hr 4 (by decide)
            have q5 : f 45 = (.int .i64 (A : Nat)) := hr 5 (by decide)
            have q6 : f 46 = (.slice (some ⟨b1, o1, none⟩) rows.length rc) := hr 6 (by decide)
            have q7 : f 47 = (.int .i64 (k : Nat)) := hr 7 (by decide)
            have q8 : f 48 = (.pointer (some ⟨b1, o1 + k, none⟩)) := hr 8 (by decide)
            have q9 : f 49 = (.slice pa part.length pc) := hr 9 (by decide)
            simp only [q0, q1, q2, q3, q4, q5, q6, q7, q8, q9, hxe]
            clear hr hb hxe hxc q0 q1 q2 q3 q4 q5 q6 q7 q8 q9
            generalize f 50 = u50' at *
            generalize f 51 = u51' at *
            generalize f 11 = u11' at *
            by_cases h3 : 0 < (SUB part).length
            · have E : Hid (PK rows = SUB part) := Lib.hid (by rw [HPK.out, HDK.out]; exact PU.out _ _ hc hf h3)
              have z2 : (0 : Int) < ((SUB part).length : Int) := by omega
              go_wp2_with fail
              go_ret
              exact ⟨_, rfl, by rw [E.out]; exact HX.out, HB4.out.trans (HB7.out.mono HB4.out.size)⟩
            · have E : Hid (PK rows = PK (rows.drop (k + 1))) := Lib.hid (by rw [HPK.out, HDK.out]; exact PN.out _ _ hc hf h3)
              have z2 : ¬ (0 : Int) < ((SUB part).length : Int) := by omega
              go_wp2_with fail
              go_roundg (rows.length - (k + 1))
              case measure => omega
              case rel => exact ⟨k + 1, by omega, by simp, E, HB7⟩
        · rw [hf] at HFF2
          have E : Hid (PK rows = part) := Lib.hid (by rw [HPK.out, HDK.out]; exact PF.out _ _ hc hf)
          go_wp2_with fail
          refine region_below (by kernel_rfl) (by kernel_rfl) ?_
          repeat (go_big_quiet_step ((go_at_call 92; exact Calls.sub_of (HFF2.out _))))
          refine wpQuiet_nil ?_
          intro w5 hb5
          have HP6 := Lib.hid (HP5.out.below hb5)
          have HB6 := Lib.hid (HB4.out.trans ((HB5.out.trans (hb5.mono HB5.out.size)).mono HB4.out.size))
          have y5 := bkeep hb5 y4
          clear hb5
          go_wp2_with fail
          go_ret
          exact ⟨_, rfl, by rw [E.out]; exact HP6.out, HB6.out⟩
    · obtain rfl : k = rows.length := by omega
      have E : Hid (PK rows = []) := Lib.hid (by rw [HPK.out, List.drop_length]; exact P0.out)
      go_wp2_with fail
      go_ret
      exact ⟨_, rfl, by rw [E.out]; exact intsAt_nil _, HB4.out.trans (HBR.out.mono HB4.out.size)⟩
/-- strong, of nodes that are in -/
theorem rstrong_in (v u : Value) (g : Gr) (en : List (List Bool)) (A : Nat) (hA : A ≤ 100) (hrows : ∀ i, i < en.length → (en.getD i []).length = A) (hel : en.length ≤ 1000000) :
    ∀ (n : Nat) (inl : List Bool) (iv : Value) (w : World), GraphAt w v g → BRowsAt w u en → BoolsAt w iv inl → inl.length = en.length → (∀ r ∈ withinI g inl, r.length ≤ n) →
      Calls Try.prog 96 #[v, u, .int .i64 (A : Nat), iv] w (IntsBack w (stR g en A n (withinI g inl)))
  | 0, inl, iv, w, h, hu, hiv, hil, hr => by
    have e : pickR g en A (fun _ => []) (withinI g inl) = [] := by
      have key : ∀ rows : List (List Int), (∀ r ∈ rows, r.length ≤ 0) → pickR g en A (fun _ => []) rows = [] := fun rows h => by
        induction rows with
        | nil => rfl
        | cons r rows ih =>
          cases hc : cycB g r
          · rw [pickR_skip hc]; exact ih fun x hx => h x (List.mem_cons_of_mem _ hx)
          · have := cyc_pos hc
            have := h r (List.mem_cons_self ..)
            omega
      exact key _ hr
    have := rstrong_walk (fun _ => []) v u iv g en A inl w h hu hiv hA hrows hel hil (fun l hl hc _ => by
      have := cyc_pos hc
      have := hr l hl
      omega)
    rw [e] at this
    exact this
  | n + 1, inl, iv, w, h, hu, hiv, hil, hr =>
    rstrong_walk (fun l => stR g en A n (withinI g (lessL g en A l))) v u iv g en A inl w h hu hiv hA hrows hel hil (fun l hl hc hf w' nv hb hnv =>
      rstrong_in v u g en A hA hrows hel n _ nv w' (h.below hb) (hu.below hb) hnv (by unfold lessL; rw [tab_len]) (fun r hr' => by
        have h1 := hr l hl
        have h2 : InT en l := fun x hx => by
          obtain ⟨i, rfl, hi, -⟩ := (withinI_row hl).2.2 x hx
          omega
        have h3 := less_shorter h2 (unfair_spoilt hc hf) hr'
        omega))
set_option maxRecDepth 100000 in
set_option maxHeartbeats 16000000 in
theorem rstrong_ok (v u : Value) (g : Gr) (en : List (List Bool)) (ag : Int) (w : World) (h : GraphAt w v g) (hu : BRowsAt w u en) (hn : nodesN g ≤ 100000) (hS : g.S.length ≤ 100000) :
    Calls Try.prog 57 #[v, u, .int .i64 ag] w (IntsBack w (strongL g en ag)) := by
  obtain ⟨sa, aa, ta, sc, ac, tc, rfl, -⟩ := h.var
  have hb := balloc w (.cells #[.slice sa g.S.length sc, .slice aa g.A.length ac, .slice ta g.T.length tc] 26)
  have HB := Lib.hid hb
  have X0 := Lib.hid (heap_alloc_new w (.cells #[.slice sa g.S.length sc, .slice aa g.A.length ac, .slice ta g.T.length tc] 26))
  have HR := Lib.hid (rrt_ok _ u g en ag _ (h.below hb) (hu.below hb))
  cases hr : rtB g en ag
  · have E : strongL g en ag = [] := by unfold strongL; rw [hr]; rfl
    rw [hr] at HR
    rw [E]
    clear h hb hu hr E
    go_enter Try.func57, Try.ntmps57
    go_wp2_with (go_at_call 60; refine HR.out.mono ?_; rintro e w1 ⟨rfl, hb1⟩; have HB1 := Lib.hid (HB.out.trans (hb1.mono HB.out.size)); clear hb1)
    go_ret
    exact ⟨_, rfl, intsAt_nil _, HB1.out⟩
  have hRT := rtB_rt hr
  obtain ⟨A, rfl, hA, hrows⟩ := hRT.nat
  have hlen := hRT.len
  have E : strongL g en (A : Nat) = stR g en A (nodesN g) (withinI g (List.replicate en.length true)) := by
    unfold strongL
    rw [hr, if_pos rfl, Int.toNat_natCast, groups_within hRT.right hS, hlen]
  rw [hr] at HR
  rw [E]
  have HRW := Lib.hid hrows
  have hel : en.length ≤ 1000000 := by omega
  have HIN : Hid (∀ (w' : World) (iv : Value), Below w.heap.size w w' → BoolsAt w' iv (List.replicate en.length true) → Calls Try.prog 96 #[.agg #[.slice sa g.S.length sc, .slice aa g.A.length ac, .slice ta g.T.length tc], u, .int .i64 (A : Nat), iv] w' (IntsBack w' (stR g en A (nodesN g) (withinI g (List.replicate en.length true))))) :=
    Lib.hid (fun w' iv hb hiv => rstrong_in _ u g en A hA hrows hel (nodesN g) _ iv w' (h.below hb) (hu.below hb) hiv (by simp) (fun r hr => by
      rw [hlen, ← groups_within hRT.right hS] at hr
      exact (groupsI_row hr).1))
  obtain ⟨ua, uc, rfl, -⟩ := hu
  clear h hb hr E hRT hlen hrows HRW
  generalize stR g en A (nodesN g) (withinI g (List.replicate en.length true)) = RES at *
  obtain ⟨n, hnn⟩ : ∃ n, en.length = n := ⟨_, rfl⟩
  rw [hnn] at HR HIN hel ⊢
  clear hnn
  go_enter Try.func57, Try.ntmps57
  go_wp2_with (first
    | (go_at_call 60; refine HR.out.mono ?_; rintro e w1 ⟨rfl, hb1⟩; have HB1 := Lib.hid (HB.out.trans (hb1.mono HB.out.size)); have X1 := Lib.hid (bheap hb1 X0.out); clear hb1)
    | (at_make; refine wpList_make_one _ rfl (.tmp 15) (.tmp 15) 33 rfl 4 (.bool false) rfl 1 Try.underlying33 Try.info4 .i64 .i64 (n : Nat) (n : Nat) n rfl rfl rfl rfl (by omega) (by unfold maxLen; omega) ?_; intro w3 hh3 hb3 hlt3; have HB3 := Lib.hid hb3; have HH3 := Lib.hid hh3; clear hb3 hh3))
  have HH4 : Hid (w3.heap[w1.heap.size]? = some (.cells (bools (tab n (fun i => decide (i < 0)))) 4 (0, 0))) := Lib.hid (by
    rw [HH3.out, ← bools_replicate]
    have : tab n (fun i => decide (i < 0)) = List.replicate n false := by unfold tab; simp [List.map_const']
    rw [this])
  go_loopg [8] n (fun fu c wr => ∃ k : Nat, k + fu = n ∧ c = .int .i64 k ∧ Below w1.heap.size w1 wr ∧ wr.heap[w1.heap.size]? = some (.cells (bools (tab n (fun i => decide (i < k)))) 4 (0, 0)))
  case atStart => exact ⟨0, by omega, rfl, HB3.out, HH4.out⟩
  case round =>
    clear HH3 HH4 HB3
    obtain ⟨k, hk, rfl, hb, hh⟩ := hrel
    by_cases hlt : k < n
    · have z : (k : Int) < (n : Int) := by omega
      have c0 := cell_of_block hh k _ (bools_get _ k (by rw [tab_len]; exact hlt))
      have f0 := free_of_block hh k
      have HX : Hid ((wr.setCell ⟨w1.heap.size, k, none⟩ (.bool true)).heap[w1.heap.size]? = some (.cells (bools (tab n (fun i => decide (i < k + 1)))) 4 (0, 0))) := Lib.hid (by
        rw [heap_setCell_block hh, bools_set, set_true n k])
      have HY := Lib.hid (hb.setCell (p := ⟨w1.heap.size, k, none⟩) (Nat.le_refl _) (.bool true))
      clear hh hb
      generalize (tab n _).getD k false = vb at *
      go_wp2_with fail
      go_roundg (n - (k + 1))
      case measure => omega
      case rel => exact ⟨k + 1, by omega, by simp, HY.out, HX.out⟩
    · obtain rfl : k = n := by omega
      have e : tab k (fun i => decide (i < k)) = List.replicate k true := by
        have : tab k (fun i => decide (i < k)) = tab k (fun _ => true) := tab_same fun x hx => decide_eq_true hx
        rw [this]; unfold tab; simp [List.map_const']
      rw [e] at hh
      have HBX := Lib.hid (HB1.out.trans (hb.mono HB1.out.size))
      have HI2 := Lib.hid (HIN.out wr _ HBX.out (boolsAt_block (n := k) hh (by simp) k))
      have hx := bheap hb X1.out
      have c0 := cell_of_block hx 0 _ rfl
      have c1 := cell_of_block hx 1 _ rfl
      have c2 := cell_of_block hx 2 _ rfl
      clear hh hb e hx
      go_wp2_with (go_at_call 96; refine HI2.out.mono ?_; rintro e w4 ⟨rv2, rfl, hr, hb4⟩; have HR4 := Lib.hid hr; have HB4 := Lib.hid (HBX.out.trans (hb4.mono HBX.out.size)); clear hr hb4)
      go_ret
      exact ⟨_, rfl, HR4.out, HB4.out⟩
end Go.Proofs.Ytnlaonppgebpoaa

namespace Go.Proofs.Ytnlaonppgebpoaa
open Go.RowKit

noncomputable def findL (g : Gr) (en : List (List Bool)) (ag how : Int) : List Int := if how = 1 then weakL g en ag else if how = 2 then strongL g en ag else []
set_option maxRecDepth 100000 in
set_option maxHeartbeats 4000000 in
theorem find_ok (v u : Value) (g : Gr) (en : List (List Bool)) (ag how : Int) (w : World) (h : GraphAt w v g) (hu : BRowsAt w u en) (hn : nodesN g ≤ 100000) :
    Calls Try.prog 58 #[v, u, .int .i64 ag, .int .i64 how] w (IntsBack w (findL g en ag how)) := by
  obtain ⟨sa, aa, ta, sc, ac, tc, rfl, -⟩ := h.var
  have hb := balloc w (.cells #[.slice sa g.S.length sc, .slice aa g.A.length ac, .slice ta g.T.length tc] 26)
  have HB := Lib.hid hb
  have X0 := Lib.hid (heap_alloc_new w (.cells #[.slice sa g.S.length sc, .slice aa g.A.length ac, .slice ta g.T.length tc] 26))
  by_cases h1 : how = 1
  · subst h1
    have E : findL g en ag 1 = weakL g en ag := if_pos rfl
    have HC := Lib.hid (weak_ok _ u g en ag _ (h.below hb) (hu.below hb) hn)
    rw [E]
    obtain ⟨ua, uc, rfl, -⟩ := hu
    clear h hb E
    generalize weakL g en ag = L at *
    go_enter Try.func58, Try.ntmps58
    go_wp2_with (go_at_call 54; refine HC.out.mono ?_; rintro e w1 ⟨rv, rfl, hi, hb1⟩; obtain ⟨ra, rc, rfl, hc⟩ := id hi; have HI := Lib.hid hi; have HB1 := Lib.hid (HB.out.trans (hb1.mono HB.out.size)); clear hb1 hi hc)
    go_ret
    exact ⟨_, rfl, HI.out, HB1.out⟩
  by_cases h2 : how = 2
  · subst h2
    have E : findL g en ag 2 = strongL g en ag := by unfold findL; rw [if_neg (by omega), if_pos rfl]
    have HC := Lib.hid (strong_ok _ u g en ag _ (h.below hb) (hu.below hb) hn)
    rw [E]
    obtain ⟨ua, uc, rfl, -⟩ := hu
    clear h hb E h1
    generalize strongL g en ag = L at *
    go_enter Try.func58, Try.ntmps58
    go_wp2_with (go_at_call 56; refine HC.out.mono ?_; rintro e w1 ⟨rv, rfl, hi, hb1⟩; obtain ⟨ra, rc, rfl, hc⟩ := id hi; have HI := Lib.hid hi; have HB1 := Lib.hid (HB.out.trans (hb1.mono HB.out.size)); clear hb1 hi hc)
    go_ret
    exact ⟨_, rfl, HI.out, HB1.out⟩
  have E : findL g en ag how = [] := by unfold findL; rw [if_neg h1, if_neg h2]
  rw [E]
  have n1 : (how == 1) = false := by simp [h1]
  have n2 : (how == 2) = false := by simp [h2]
  obtain ⟨ua, uc, rfl, -⟩ := hu
  clear h hb E h1 h2
  go_enter Try.func58, Try.ntmps58
  go_wp2_with fail
  go_ret
  exact ⟨_, rfl, intsAt_nil _, HB.out⟩
set_option maxRecDepth 100000 in
set_option maxHeartbeats 4000000 in
theorem rfind_ok (v u : Value) (g : Gr) (en : List (List Bool)) (ag how : Int) (w : World) (h : GraphAt w v g) (hu : BRowsAt w u en) (hn : nodesN g ≤ 100000) (hS : g.S.length ≤ 100000) :
    Calls Try.prog 59 #[v, u, .int .i64 ag, .int .i64 how] w (IntsBack w (findL g en ag how)) := by
  obtain ⟨sa, aa, ta, sc, ac, tc, rfl, -⟩ := h.var
  have hb := balloc w (.cells #[.slice sa g.S.length sc, .slice aa g.A.length ac, .slice ta g.T.length tc] 26)
  have HB := Lib.hid hb
  have X0 := Lib.hid (heap_alloc_new w (.cells #[.slice sa g.S.length sc, .slice aa g.A.length ac, .slice ta g.T.length tc] 26))
  by_cases h1 : how = 1
  · subst h1
    have E : findL g en ag 1 = weakL g en ag := if_pos rfl
    have HC := Lib.hid (rweak_ok _ u g en ag _ (h.below hb) (hu.below hb) hn)
    rw [E]
    obtain ⟨ua, uc, rfl, -⟩ := hu
    clear h hb E
    generalize weakL g en ag = L at *
    go_enter Try.func59, Try.ntmps59
    go_wp2_with (go_at_call 55; refine HC.out.mono ?_; rintro e w1 ⟨rv, rfl, hi, hb1⟩; obtain ⟨ra, rc, rfl, hc⟩ := id hi; have HI := Lib.hid hi; have HB1 := Lib.hid (HB.out.trans (hb1.mono HB.out.size)); clear hb1 hi hc)
    go_ret
    exact ⟨_, rfl, HI.out, HB1.out⟩
  by_cases h2 : how = 2
  · subst h2
    have E : findL g en ag 2 = strongL g en ag := by unfold findL; rw [if_neg (by omega), if_pos rfl]
    have HC := Lib.hid (rstrong_ok _ u g en ag _ (h.below hb) (hu.below hb) hn hS)
    rw [E]
    obtain ⟨ua, uc, rfl, -⟩ := hu
    clear h hb E h1
    generalize strongL g en ag = L at *
    go_enter Try.func59, Try.ntmps59
    go_wp2_with (go_at_call 57; refine HC.out.mono ?_; rintro e w1 ⟨rv, rfl, hi, hb1⟩; obtain ⟨ra, rc, rfl, hc⟩ := id hi; have HI := Lib.hid hi; have HB1 := Lib.hid (HB.out.trans (hb1.mono HB.out.size)); clear hb1 hi hc)
    go_ret
    exact ⟨_, rfl, HI.out, HB1.out⟩
  have E : findL g en ag how = [] := by unfold findL; rw [if_neg h1, if_neg h2]
  rw [E]
  have n1 : (how == 1) = false := by simp [h1]
  have n2 : (how == 2) = false := by simp [h2]
  obtain ⟨ua, uc, rfl, -⟩ := hu
  clear h hb E h1 h2
  go_enter Try.func59, Try.ntmps59
  go_wp2_with fail
  go_ret
  exact ⟨_, rfl, intsAt_nil _, HB.out⟩
end Go.Proofs.Ytnlaonppgebpoaa
