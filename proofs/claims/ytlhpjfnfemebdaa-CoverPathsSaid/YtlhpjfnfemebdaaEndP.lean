/-
  CoverEnds, CoverPaths: plain.
-/
import Derived.Test.YtlhpjfnfemebdaaKnP
import Derived.Test.YtlhpjfnfemebdaaJMade30
namespace Go.Proofs.Ytlhpjfnfemebdaa
open Go.RowKit
section
variable {u : PUn} {model room : Int} {s : Sp}
theorem SpG.edge (h : SpG u model room s) (k a : Nat) : (∃ e ∈ allL (buildG (s.confs.length : Int) s.ed), e.1 = (k : Int) ∧ e.2.1 = (a : Int)) ↔ k < s.confs.length ∧ a < agN u model ∧ enA u (s.confs.getD k cf0) model room a = true := by
 obtain ⟨-, -, hm, -⟩ := sp_right h.ok
 have h1 : (∃ e ∈ allL (buildG (s.confs.length : Int) s.ed), e.1 = (k : Int) ∧ e.2.1 = (a : Int)) ↔ ((k : Int), (a : Int)) ∈ s.ed.map (fun e => (e.1, e.2.1)) := by
  rw [List.mem_map]
  constructor
  ·rintro ⟨e, he, e1, e2⟩; exact ⟨e, (hm e).1 he, by rw [e1, e2]⟩
  ·rintro ⟨e, he, e1⟩
   exact ⟨e, (hm e).2 he, (Prod.mk.inj e1).1, (Prod.mk.inj e1).2⟩
 rw [h1, h.edm]
 unfold rowsB
 rw [List.mem_flatMap]
 constructor
 ·rintro ⟨j, hj, h2⟩
  obtain ⟨x, hx, e1⟩ := List.mem_map.1 h2
  obtain ⟨e2, e3⟩ := Prod.mk.inj e1
  obtain rfl : j = k := by omega
  obtain ⟨n, hn, hna, hen⟩ := movK_mem.1 hx
  obtain rfl : n = a := by omega
  exact ⟨List.mem_range.1 hj, hna, hen⟩
 ·rintro ⟨hk, ha, hen⟩
  exact ⟨k, List.mem_range.2 hk, List.mem_map.2 ⟨(a : Int), movK_mem.2 ⟨a, rfl, ha, hen⟩, rfl⟩⟩
theorem SpG.thread (h : SpG u model room s) (hm : 1 ≤ model ∧ model ≤ 3) {t : Nat} (ht : t < u.code.length) : t < u.regs.length ∧ t < agN u model := by
 obtain ⟨-, -, -, -, hcr, -⟩ := rightU_iff.1 h.right
 refine ⟨by omega, ?_⟩
 unfold agN
 split
 ·omega
 ·split
  ·omega
  ·rw [if_pos (by omega)]; omega
def somK (cs : List Cf) (EN : Nat → Bool) (t i k : Nat) : Bool := (List.range k).any (fun q => decide ((cs.getD q cf0).pc.getD t 0 = (i : Int)) && EN q)
theorem somK_succ (cs : List Cf) (EN : Nat → Bool) (t i k : Nat) : somK cs EN t i (k + 1) = (somK cs EN t i k || (decide ((cs.getD k cf0).pc.getD t 0 = (i : Int)) && EN k)) := by
 unfold somK
 rw [List.range_succ, List.any_append, List.any_cons, List.any_nil, Bool.or_false]
theorem SpG.path (h : SpG u model room s) (hm : 1 ≤ model ∧ model ≤ 3) {t : Nat} (ht : t < u.code.length) (i : Nat) : doneTB (allL (buildG (s.confs.length : Int) s.ed)) s.confs t i = somK s.confs (fun q => enA u (s.confs.getD q cf0) model room t) t i s.confs.length := by
 obtain ⟨-, hta⟩ := h.thread hm ht
 obtain ⟨-, -, hmem, -⟩ := sp_right h.ok
 have h1 : doneTB (allL (buildG (s.confs.length : Int) s.ed)) s.confs t i = true ↔ somK s.confs (fun q => enA u (s.confs.getD q cf0) model room t) t i s.confs.length = true := by
  unfold doneTB somK
  rw [List.any_eq_true, List.any_eq_true]
  constructor
  ·rintro ⟨e, he, hd⟩
   unfold doneEB at hd
   rw [Bool.and_eq_true, decide_eq_true_iff, decide_eq_true_iff] at hd
   have hb := (buildOk_mem h.ok).2 e ((hmem e).1 he)
   obtain ⟨k, hk⟩ : ∃ k : Nat, e.1 = (k : Int) := ⟨e.1.toNat, by omega⟩
   obtain ⟨h2, h3, h4⟩ := (h.edge k t).1 ⟨e, he, hk, hd.1⟩
   refine ⟨k, List.mem_range.2 h2, ?_⟩
   have h5 := hd.2
   rw [hk, Int.toNat_natCast] at h5
   rw [Bool.and_eq_true, decide_eq_true_iff]
   exact ⟨h5, h4⟩
  ·rintro ⟨k, hk, hd⟩
   rw [Bool.and_eq_true, decide_eq_true_iff] at hd
   obtain ⟨e, he, e1, e2⟩ := (h.edge k t).2 ⟨List.mem_range.1 hk, hta, hd.2⟩
   refine ⟨e, he, ?_⟩
   unfold doneEB
   rw [Bool.and_eq_true, decide_eq_true_iff, decide_eq_true_iff, e1, Int.toNat_natCast]
   exact ⟨e2, hd.1⟩
 cases hx : doneTB (allL (buildG (s.confs.length : Int) s.ed)) s.confs t i
 ·cases hy : somK s.confs (fun q => enA u (s.confs.getD q cf0) model room t) t i s.confs.length
  ·rfl
  ·rw [h1.2 hy] at hx; cases hx
 ·exact (h1.1 hx).symm
theorem SpG.last (h : SpG u model room s) (hm : 1 ≤ model ∧ model ≤ 3) {t : Nat} (ht : t < u.code.length) : 1 ≤ (u.code.getD t []).length ∧ doneTB (allL (buildG (s.confs.length : Int) s.ed)) s.confs t ((u.code.getD t []).length - 1) = false := by
 obtain ⟨htr, hta⟩ := h.thread hm ht
 obtain ⟨-, -, -, -, -, hrw⟩ := rightU_iff.1 h.right
 obtain ⟨-, ⟨hc1, -⟩, hd, -⟩ := rowU_iff.1 (hrw t htr)
 refine ⟨hc1, ?_⟩
 rw [h.path hm ht]
 unfold somK
 rw [List.any_eq_false]
 intro k hk hc
 rw [Bool.and_eq_true, decide_eq_true_iff] at hc
 obtain ⟨h1, h2⟩ := hc
 have h2 : enA u (s.confs.getD k cf0) model room t = true := h2
 unfold enA at h2
 rw [if_pos htr] at h2
 unfold enT at h2
 have hop : (insT u (s.confs.getD k cf0) t).op = 22 := by
  unfold insT
  rw [h1, Int.toNat_natCast]
  unfold doneB at hd
  simp only [Bool.and_eq_true, beq_iff_eq] at hd
  exact hd.1.1.1.1.1.1
 rw [if_pos hop] at h2
 cases h2
def ltA (l : List Ed) (m : Nat) : Nat := l.countP (fun e => decide (e.2.1 < (m : Int)))
theorem countE_split {l : List Ed} {p q r : Ed → Bool} (h : ∀ x, p x = (q x || r x)) (hd : ∀ x, q x = true → r x = false) : l.countP p = l.countP q + l.countP r := by
 induction l with
 | nil => rfl
 | cons x l ih =>
  rw [List.countP_cons, List.countP_cons, List.countP_cons, ih, h x]
  cases hq : q x <;> cases hr : r x <;> simp
  ·omega
  ·omega
  ·have := hd x hq; rw [hr] at this; cases this
theorem ltA_succ (l : List Ed) (m : Nat) : ltA l (m + 1) = ltA l m + l.countP (fun e => decide (e.2.1 = (m : Int))) := by
 unfold ltA
 refine countE_split (fun x => ?_) (fun x hx => ?_)
 ·rw [← Bool.decide_or]
  exact decide_eq_decide.2 (by omega)
 ·have := of_decide_eq_true hx
  exact decide_eq_false (by omega)
theorem ltA_le (l : List Ed) (m : Nat) : ltA l m ≤ l.length := List.countP_le_length
theorem SpG.ltA_zero (h : SpG u model room s) : ltA (allL (buildG (s.confs.length : Int) s.ed)) 0 = 0 := by
 obtain ⟨-, -, hmem, -⟩ := sp_right h.ok
 unfold ltA
 rw [List.countP_eq_zero]
 intro e he hc
 have := (buildOk_mem h.ok).2 e ((hmem e).1 he)
 have := of_decide_eq_true hc
 omega
theorem SpG.ltA_all (h : SpG u model room s) : ltA (allL (buildG (s.confs.length : Int) s.ed)) (agN u model) = (buildG (s.confs.length : Int) s.ed).T.length := by
 obtain ⟨hR, -, hmem, -⟩ := sp_right h.ok
 unfold ltA
 rw [List.countP_eq_length.2 (fun e he => decide_eq_true (h.ag e ((hmem e).1 he))), allL_len hR]
end
theorem countP_allc (p : Ed → Bool) {n : Nat} {l : List Ed} (h : buildOk (n : Int) l = true) : (allL (buildG (n : Int) l)).countP p = l.countP p := by
 have e : buildG (n : Int) l = csr n l := by unfold buildG; rw [if_pos h, Int.toNat_natCast]
 rw [e, countP_all_csr p h]
theorem made_range {u : PUn} {model room budget : Int} {s : Sp} (h : madeS u model room budget = some s) : 1 ≤ model ∧ model ≤ 3 := by
 unfold madeS at h
 split at h
 ·exact (spaceS_some h).2.1
 ·cases h
theorem weak_spin {g : Gr} (h : Rt g) {en : List (List Bool)} {ag : Int} {x : Int} (hx : x ∈ weakL g en ag) : x ∈ spinL g (nodesN g) := by
 unfold weakL at hx
 split at hx
 ·unfold firstF at hx
  cases hf : (groupsI g).find? (fairB g en spW ag.toNat) with
  | none => rw [hf] at hx; cases hx
  | some r =>
   rw [hf] at hx
   have hr := List.mem_of_find?_eq_some hf
   have hp := List.find?_some hf
   unfold fairB at hp
   rw [Bool.and_eq_true] at hp
   obtain ⟨-, h2⟩ := groupsI_row hr
   have hxx : x ∈ r := hx
   obtain ⟨h3, h4⟩ := h2 x hxx
   obtain ⟨i, hi⟩ : ∃ i : Nat, x = (i : Int) := ⟨x.toNat, by omega⟩
   subst hi
   have hs := (spin_groups h (i := i) (by omega)).1 ⟨r, hr, hp.1, hxx⟩
   classical
   unfold spinL
   refine List.mem_map.2 ⟨i, List.mem_filter.2 ⟨List.mem_range.2 (by omega), ?_⟩, rfl⟩
   exact decide_eq_true hs
 ·cases hx
theorem weakL_len' {g : Gr} {en : List (List Bool)} {ag : Int} : (weakL g en ag).length ≤ nodesN g := by
 unfold weakL
 split
 ·unfold firstF
  cases hf : (groupsI g).find? (fairB g en spW ag.toNat) with
  | none => exact Nat.zero_le _
  | some r => exact (groupsI_row (List.mem_of_find?_eq_some hf)).1
 ·exact Nat.zero_le _
theorem any_take {l : List Int} {x : Int} {k : Nat} (h : k < l.length) : (l.take (k + 1)).any (fun y => decide (y = x)) = ((l.take k).any (fun y => decide (y = x)) || decide (l.getD k 0 = x)) := by
 rw [take_succ_getD (d := 0) h, List.any_append, List.any_cons, List.any_nil, Bool.or_false]
end Go.Proofs.Ytlhpjfnfemebdaa
