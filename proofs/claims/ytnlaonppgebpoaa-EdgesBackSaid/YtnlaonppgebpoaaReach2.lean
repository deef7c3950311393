/-
  Visiting: the plain law of a search with a stack: no program in sight.
-/
import Derived.Test.YtnlaonppgebpoaaReachPlain
namespace Go.Proofs.Ytnlaonppgebpoaa

/-- which nodes were seen, and which wait -/
abbrev VS := List Bool × List Int
def visitS (n : Nat) (s : VS) (i : Int) : VS := if 0 ≤ i ∧ i < (n : Int) ∧ s.1.getD i.toNat false = false then (s.1.set i.toNat true, s.2 ++ [i]) else s
def visitAll (n : Nat) (s : VS) (l : List Int) : VS := l.foldl (visitS n) s
theorem visitAll_snoc (n : Nat) (s : VS) (l : List Int) (i : Int) : visitAll n s (l ++ [i]) = visitS n (visitAll n s l) i := by simp [visitAll]

theorem visitS_no {n : Nat} {s : VS} {i : Int} (h : ¬ (0 ≤ i ∧ i < (n : Int) ∧ s.1.getD i.toNat false = false)) : visitS n s i = s := if_neg h
theorem visitS_yes {n : Nat} {s : VS} {i : Int} (h : 0 ≤ i ∧ i < (n : Int) ∧ s.1.getD i.toNat false = false) : visitS n s i = (s.1.set i.toNat true, s.2 ++ [i]) := if_pos h

structure VInv (g : Gr) (n : Nat) (fr : List Int) (x : Int → Prop) (s : VS) : Prop where
  len : s.1.length = n
  sound : ∀ i, i < n → s.1.getD i false = true → Rch (allL g) (Src n fr) (i : Int)
  stack : ∀ i ∈ s.2, 0 ≤ i ∧ i < (n : Int) ∧ s.1.getD i.toNat false = true
  closed : ∀ e ∈ allL g, s.1.getD e.1.toNat false = true → e.1 ∈ s.2 ∨ x e.1 ∨ s.1.getD e.2.2.toNat false = true

theorem visitS_keep {n : Nat} {s : VS} (i : Int) (hl : s.1.length = n) {j : Nat} (h : s.1.getD j false = true) : (visitS n s i).1.getD j false = true := by
  by_cases hc : 0 ≤ i ∧ i < (n : Int) ∧ s.1.getD i.toNat false = false
  · rw [visitS_yes hc]
    show (s.1.set i.toNat true).getD j false = true
    rw [getD_set _ _ _ _ _ (by omega)]
    by_cases e : j = i.toNat
    · rw [if_pos e]
    · rw [if_neg e]; exact h
  · rw [visitS_no hc]; exact h
theorem visitS_hit {n : Nat} {s : VS} {i : Int} (hl : s.1.length = n) (h0 : 0 ≤ i) (hn : i < (n : Int)) : (visitS n s i).1.getD i.toNat false = true := by
  by_cases hc : 0 ≤ i ∧ i < (n : Int) ∧ s.1.getD i.toNat false = false
  · rw [visitS_yes hc]
    show (s.1.set i.toNat true).getD i.toNat false = true
    rw [getD_set _ _ _ _ _ (by omega), if_pos rfl]
  · rw [visitS_no hc]
    cases e : s.1.getD i.toNat false
    · exact (hc ⟨h0, hn, e⟩).elim
    · rfl
theorem visitS_len {n : Nat} {s : VS} (i : Int) (hl : s.1.length = n) : (visitS n s i).1.length = n := by
  unfold visitS; split
  · simp [hl]
  · exact hl
theorem visitS_size {n : Nat} {s : VS} (i : Int) (hl : s.1.length = n) : falses (visitS n s i).1 + (visitS n s i).2.length = falses s.1 + s.2.length := by
  by_cases hc : 0 ≤ i ∧ i < (n : Int) ∧ s.1.getD i.toNat false = false
  · rw [visitS_yes hc]
    have := falses_set s.1 i.toNat (by omega) hc.2.2
    simp only [List.length_append, List.length_cons, List.length_nil]; omega
  · rw [visitS_no hc]
theorem visitS_inv {g : Gr} {n : Nat} {fr : List Int} {x : Int → Prop} {s : VS} (h : VInv g n fr x s) {i : Int} (hr : 0 ≤ i → i < (n : Int) → Rch (allL g) (Src n fr) i) : VInv g n fr x (visitS n s i) := by
  by_cases hc : 0 ≤ i ∧ i < (n : Int) ∧ s.1.getD i.toNat false = false
  · have hlt : i.toNat < s.1.length := by rw [h.len]; omega
    have hk := fun j (hj : s.1.getD j false = true) => visitS_keep (n := n) i h.len hj
    rw [visitS_yes hc] at hk ⊢
    refine ⟨by simp [h.len], ?_, ?_, ?_⟩
    · intro j hj he
      change (s.1.set i.toNat true).getD j false = true at he
      rw [getD_set _ _ _ _ _ hlt] at he
      by_cases e : j = i.toNat
      · subst e; have := hr hc.1 hc.2.1; rwa [show ((i.toNat : Nat) : Int) = i by omega]
      · rw [if_neg e] at he; exact h.sound j hj he
    · intro j hj
      rcases List.mem_append.1 hj with hj | hj
      · obtain ⟨a, b, c⟩ := h.stack j hj; exact ⟨a, b, hk _ c⟩
      · obtain rfl : j = i := by simpa using hj
        refine ⟨hc.1, hc.2.1, ?_⟩
        show (s.1.set j.toNat true).getD j.toNat false = true
        rw [getD_set _ _ _ _ _ hlt, if_pos rfl]
    · intro e he ht
      change (s.1.set i.toNat true).getD e.1.toNat false = true at ht
      rw [getD_set _ _ _ _ _ hlt] at ht
      by_cases e1 : e.1.toNat = i.toNat
      · rcases Int.lt_or_le e.1 0 with hneg | hpos
        · have h0 : rightB g = true := by
            cases hh : rightB g
            · rw [allL_not hh] at he; simp at he
            · rfl
          have := allL_mem ((rightB_iff g).1 h0) he; omega
        · left
          show e.1 ∈ s.2 ++ [i]
          rw [show e.1 = i by omega]; simp
      · rw [if_neg e1] at ht
        rcases h.closed e he ht with q | q | q
        · exact .inl (List.mem_append.2 (.inl q))
        · exact .inr (.inl q)
        · exact .inr (.inr (hk _ q))
  · rw [visitS_no hc]; exact h

theorem visitAll_inv {g : Gr} {n : Nat} {fr : List Int} {x : Int → Prop} : ∀ (l : List Int) {s : VS}, VInv g n fr x s → (∀ i ∈ l, 0 ≤ i → i < (n : Int) → Rch (allL g) (Src n fr) i) → VInv g n fr x (visitAll n s l) ∧
    falses (visitAll n s l).1 + (visitAll n s l).2.length = falses s.1 + s.2.length ∧ (∀ j, s.1.getD j false = true → (visitAll n s l).1.getD j false = true) ∧ ∀ i ∈ l, 0 ≤ i → i < (n : Int) → (visitAll n s l).1.getD i.toNat false = true
  | [], s, h, _ => ⟨h, rfl, fun _ h => h, fun i hi => by simp at hi⟩
  | a :: l, s, h, hr => by
    have h1 := visitS_inv h (i := a) (hr a (by simp))
    obtain ⟨k1, k2, k3, k4⟩ := visitAll_inv l h1 (fun i hi => hr i (by simp [hi]))
    refine ⟨k1, ?_, ?_, ?_⟩
    · have e := visitS_size (n := n) a h.len
      show falses (visitAll n (visitS n s a) l).1 + _ = _
      rw [← e]; exact k2
    · exact fun j hj => k3 j (visitS_keep a h.len hj)
    · intro i hi h0 hn
      rcases List.mem_cons.1 hi with rfl | hi
      · exact k3 _ (visitS_hit h.len h0 hn)
      · exact k4 i hi h0 hn

/-- the start: nothing seen -/
theorem vinv_start (g : Gr) (n : Nat) (fr : List Int) : VInv g n fr (fun _ => False) (List.replicate n false, []) := by
  refine ⟨by simp, ?_, by simp, ?_⟩
  · intro i hi h; simp [List.getD, hi] at h
  · intro e _ h
    exfalso
    by_cases hi : e.1.toNat < n <;> simp [List.getD, hi] at h
/-- one node taken off the stack, all its edges followed -/
theorem vinv_pop {g : Gr} (hR : Rt g) {n : Nat} (hn : n = nodesN g) {fr : List Int} {out : List Bool} {op : List Int} {i : Nat} (h : VInv g n fr (fun _ => False) (out, op ++ [(i : Int)])) :
    VInv g n fr (fun _ => False) (visitAll n (out, op) ((eds g i).map (fun e => e.2.2))) ∧ falses (visitAll n (out, op) ((eds g i).map (fun e => e.2.2))).1 + (visitAll n (out, op) ((eds g i).map (fun e => e.2.2))).2.length = falses out + op.length ∧
      (∀ j, out.getD j false = true → (visitAll n (out, op) ((eds g i).map (fun e => e.2.2))).1.getD j false = true) := by
  obtain ⟨hi0, hin, hit⟩ := h.stack i (by simp)
  have hgs : n = g.S.length - 1 := by rw [hn, nodesN_right hR]
  have h1 : VInv g n fr (fun k => k = (i : Int)) (out, op) := by
    refine ⟨h.len, h.sound, fun j hj => h.stack j (by simp [hj]), ?_⟩
    intro e he ht
    rcases h.closed e he ht with q | q | q
    · rcases List.mem_append.1 q with q | q
      · exact .inl q
      · exact .inr (.inl (by simpa using q))
    · exact q.elim
    · exact .inr (.inr q)
  have hri : Rch (allL g) (Src n fr) (i : Int) := h.sound i (by omega) (by simpa using hit)
  have hed : ∀ e ∈ eds g i, e ∈ allL g := by
    intro e he
    rw [allL_right hR, span_flat]
    exact List.mem_flatMap.2 ⟨i, by rw [List.mem_range]; omega, he⟩
  obtain ⟨k1, k2, k3, k4⟩ := visitAll_inv ((eds g i).map (fun e => e.2.2)) h1 (by
    intro t ht _ _
    obtain ⟨e, he, rfl⟩ := List.mem_map.1 ht
    refine .step ?_ (hed e he)
    rw [eds_fst he]; exact hri)
  refine ⟨⟨k1.len, k1.sound, k1.stack, ?_⟩, k2, k3⟩
  intro e he ht
  rcases k1.closed e he ht with q | q | q
  · exact .inl q
  · right; right
    have hm := allL_mem hR he
    have he' : e ∈ eds g i := by
      rw [← outs_all hR (show i + 1 < g.S.length by omega)]
      exact List.mem_filter.2 ⟨he, by simpa using q⟩
    exact k4 e.2.2 (List.mem_map.2 ⟨e, he', rfl⟩) hm.2.2.1 (by omega)
  · exact .inr (.inr q)
/-- the end: nothing waits -/
theorem vinv_end {g : Gr} (hR : Rt g) {fr : List Int} {out : List Bool} (h : VInv g (nodesN g) fr (fun _ => False) (out, [])) (hb : ∀ i ∈ fr, 0 ≤ i → i < (nodesN g : Int) → out.getD i.toNat false = true) : out = reachL g fr := by
  refine reachL_eq hR fr out h.len h.sound ?_ ?_
  · intro i hi hm
    have := hb i hm (by omega) (by omega)
    simpa using this
  · intro e he ht
    rcases h.closed e he ht with q | q | q
    · simp at q
    · exact q.elim
    · exact q
end Go.Proofs.Ytnlaonppgebpoaa
