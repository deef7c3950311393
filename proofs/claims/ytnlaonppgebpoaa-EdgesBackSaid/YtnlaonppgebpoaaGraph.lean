/-
  What is built of a graph's edges, and a built graph's edges: no program in sight.
-/
import Derived.Test.YtnlaonppgebpoaaSpan
import Derived.Test.YtnlaonppgebpoaaBuildPlain
namespace Go.Proofs.Ytnlaonppgebpoaa

/-- all edges of a right graph, else none -/
def allL (g : Gr) : List Ed := if rightB g = true then span g 0 (g.S.length - 1) else []
theorem allL_right {g : Gr} (h : Rt g) : allL g = span g 0 (g.S.length - 1) := by unfold allL; rw [if_pos ((rightB_iff g).2 h)]
theorem allL_not {g : Gr} (h : rightB g = false) : allL g = [] := by unfold allL; rw [h]; rfl

theorem eds_fst {g : Gr} {i : Nat} {e : Ed} (h : e ∈ eds g i) : e.1 = (i : Int) := by
  simp only [eds, edsN, List.mem_map] at h
  obtain ⟨k, -, rfl⟩ := h
  rfl
theorem outs_flat (f : Nat → List Ed) (hf : ∀ j e, e ∈ f j → e.1 = (j : Int)) (i : Nat) : ∀ n, outs ((List.range n).flatMap f) i = if i < n then f i else []
  | 0 => rfl
  | n + 1 => by
    have ih := outs_flat f hf i n
    unfold outs at ih ⊢
    rw [List.range_succ, List.flatMap_append, List.filter_append, ih]
    simp only [List.flatMap_cons, List.flatMap_nil, List.append_nil]
    by_cases h : i = n
    · subst h
      rw [if_neg (by omega), if_pos (by omega), List.nil_append, List.filter_eq_self]
      intro e he
      simp [hf i e he]
    · have : (f n).filter (fun e => decide (e.1 = (i : Int))) = [] := by
        rw [List.filter_eq_nil_iff]
        intro e he
        rw [hf n e he]
        simp; omega
      rw [this, List.append_nil]
      by_cases hlt : i < n
      · rw [if_pos hlt, if_pos (by omega)]
      · rw [if_neg hlt, if_neg (by omega)]
theorem cntLt_flat (f : Nat → List Ed) (hf : ∀ j e, e ∈ f j → e.1 = (j : Int)) (n i : Nat) (hi : i < n) : cntLt ((List.range n).flatMap f) (i + 1) = cntLt ((List.range n).flatMap f) i + (f i).length := by
  rw [cntLt_succ, cnt, outs_flat f hf i n, if_pos hi]
theorem flat_mem_nonneg (f : Nat → List Ed) (hf : ∀ j e, e ∈ f j → e.1 = (j : Int)) (n : Nat) : ∀ e ∈ (List.range n).flatMap f, 0 ≤ e.1 := by
  intro e he
  obtain ⟨j, -, hj⟩ := List.mem_flatMap.1 he
  rw [hf j e hj]; omega

theorem span_flat (g : Gr) (n : Nat) : span g 0 n = (List.range n).flatMap (eds g) := by
  unfold span; rw [List.range_eq_range']

theorem cntLt_all_st {g : Gr} (h : Rt g) : ∀ i, i < g.S.length → cntLt (allL g) i = st g i
  | 0, _ => by
    rw [allL_right h, span_flat, cntLt_zero (flat_mem_nonneg _ (fun j e => eds_fst) _)]
    unfold st; rw [h.first]; rfl
  | i + 1, hi => by
    have ih := cntLt_all_st h i (by omega)
    have h1 := h.stLe (i := i) (j := i + 1) (by omega) hi
    rw [allL_right h, span_flat] at ih ⊢
    rw [cntLt_flat _ (fun j e => eds_fst) _ _ (by omega), ih, eds, edsN_len]; omega
theorem outs_all {g : Gr} (h : Rt g) {i : Nat} (hi : i + 1 < g.S.length) : outs (allL g) i = eds g i := by
  rw [allL_right h, span_flat, outs_flat _ (fun j e => eds_fst), if_pos (by omega)]

theorem flat_all {g : Gr} (h : Rt g) (X : List Int) (p : Ed → Int) (hX : X.length = g.T.length) (hp : ∀ i k, p (edge g i k) = X.getD k 0) : flat (g.S.length - 1) (allL g) p = X := by
  have key : ∀ n, n < g.S.length → flat n (allL g) p = X.take (st g n) := by
    intro n
    induction n with
    | zero =>
      intro _
      have : st g 0 = 0 := by unfold st; rw [h.first]; rfl
      rw [this]; simp [flat]
    | succ n ih =>
      intro hn
      rw [flat_succ, ih (by omega), outs_all h hn]
      have h1 := h.stLe (i := n) (j := n + 1) (by omega) hn
      have h2 := h.stTop (i := n + 1) hn
      apply List.ext_getElem?
      intro k
      simp only [eds, edsN, List.map_map]
      by_cases hk : k < st g n
      · rw [List.getElem?_append_left (by simp; omega), List.getElem?_take, List.getElem?_take, if_pos hk, if_pos (by omega)]
      · rw [List.getElem?_append_right (by simp; omega)]
        have hl : (X.take (st g n)).length = st g n := by simp; omega
        rw [hl, List.getElem?_map, List.getElem?_take]
        by_cases hk2 : k < st g (n + 1)
        · rw [if_pos hk2, List.getElem?_range' (by omega)]
          have e : st g n + 1 * (k - st g n) = k := by omega
          rw [e]
          simp only [Option.map_some, Function.comp_apply, hp]
          simp [List.getD, List.getElem?_eq_getElem (show k < X.length by omega)]
        · rw [if_neg hk2, List.getElem?_eq_none (by simp; omega)]; rfl
  rw [key _ (by have := h.ne; omega)]
  have : st g (g.S.length - 1) = X.length := by
    have := h.last
    rw [h.st (by have := h.ne; omega)] at this; omega
  rw [this, List.take_length]

theorem csr_all {g : Gr} (h : Rt g) : csr (g.S.length - 1) (allL g) = g := by
  have hne := h.ne
  have h1 : tab (g.S.length - 1 + 1) (fun i => (cntLt (allL g) i : Int)) = g.S := by
    apply List.ext_getElem?
    intro i
    simp only [tab, List.getElem?_map]
    by_cases hi : i < g.S.length
    · have := h.st hi
      rw [List.getElem?_range (by omega), Option.map_some, cntLt_all_st h i hi, ← this]
      simp [List.getD, hi]
    · rw [List.getElem?_eq_none (by simp; omega), List.getElem?_eq_none (by omega)]; rfl
  unfold csr
  rw [h1, flat_all h g.A _ h.lens (fun i k => rfl), flat_all h g.T _ rfl (fun i k => rfl)]

/-- of a built graph -/
theorem buildOk_mem {n : Nat} {l : List Ed} (h : buildOk n l = true) : n ≤ 100000 ∧ ∀ e ∈ l, 0 ≤ e.1 ∧ e.1 < (n : Int) ∧ 0 ≤ e.2.2 ∧ e.2.2 < (n : Int) ∧ 0 ≤ e.2.1 := by
  simp only [buildOk, Bool.and_eq_true, List.all_eq_true, okE, decide_eq_true_eq] at h
  exact ⟨by omega, h.2⟩
theorem buildOk_intro {n : Nat} {l : List Ed} (hn : n ≤ 100000) (h : ∀ e ∈ l, 0 ≤ e.1 ∧ e.1 < (n : Int) ∧ 0 ≤ e.2.2 ∧ e.2.2 < (n : Int) ∧ 0 ≤ e.2.1) : buildOk n l = true := by
  simp only [buildOk, Bool.and_eq_true, List.all_eq_true, okE, decide_eq_true_eq]
  exact ⟨by omega, h⟩
theorem buildG_ok {n : Nat} {l : List Ed} (h : buildOk n l = true) : buildG n l = csr n l := by simp [buildG, h]
theorem buildG_bad {n : Int} {l : List Ed} (h : buildOk n l = false) : buildG n l = ⟨[], [], []⟩ := by simp [buildG, h]

theorem csr_lenT {n : Nat} {l : List Ed} (h : buildOk n l = true) : (csr n l).T.length = l.length ∧ (csr n l).A.length = l.length := by
  obtain ⟨-, hm⟩ := buildOk_mem h
  have h0 : ∀ e ∈ l, 0 ≤ e.1 := fun e he => (hm e he).1
  have h1 : ∀ e ∈ l, e.1 < (n : Int) := fun e he => (hm e he).2.1
  exact ⟨by show (flat n l _).length = _; rw [flat_len h0, cntLt_all h1], by show (flat n l _).length = _; rw [flat_len h0, cntLt_all h1]⟩
theorem csr_S {n : Nat} (l : List Ed) {i : Nat} (hi : i ≤ n) : (csr n l).S.getD i 0 = (cntLt l i : Int) := tab_get _ _ _ _ (by omega)
theorem csr_st {n : Nat} (l : List Ed) {i : Nat} (hi : i ≤ n) : st (csr n l) i = cntLt l i := by unfold st; rw [csr_S l hi]; simp
theorem flat_mem {n : Nat} {l : List Ed} {p : Ed → Int} {x : Int} (h : x ∈ flat n l p) : ∃ e ∈ l, p e = x := by
  simp only [flat, List.mem_flatMap, List.mem_map, outs, List.mem_filter] at h
  obtain ⟨i, -, e, ⟨he, -⟩, rfl⟩ := h
  exact ⟨e, he, rfl⟩
theorem getD_mem {l : List Int} {k : Nat} (h : k < l.length) : l.getD k 0 ∈ l := by
  simp [List.getD, h]
theorem csr_right {n : Nat} {l : List Ed} (h : buildOk n l = true) : Rt (csr n l) := by
  obtain ⟨-, hm⟩ := buildOk_mem h
  have h0 : ∀ e ∈ l, 0 ≤ e.1 := fun e he => (hm e he).1
  have h1 : ∀ e ∈ l, e.1 < (n : Int) := fun e he => (hm e he).2.1
  obtain ⟨hT, hA⟩ := csr_lenT h
  have hS := csr_S_len n l
  refine ⟨by omega, ?_, ?_, by omega, ?_, ?_⟩
  · rw [csr_S l (by omega), cntLt_zero h0]; rfl
  · rw [hS, csr_S l (by omega), hT]
    have : n + 1 - 1 = n := by omega
    rw [this, cntLt_all h1]
  · intro i hi
    rw [csr_S l (by omega), csr_S l (by omega)]
    have := cntLt_mono l (show i ≤ i + 1 by omega)
    omega
  · intro k hk
    obtain ⟨e, he, h2⟩ := flat_mem (getD_mem hk)
    obtain ⟨e', he', h3⟩ := flat_mem (getD_mem (show k < (csr n l).A.length by omega))
    have a := hm e he
    have b := hm e' he'
    have e1 : (csr n l).T.getD k 0 = e.2.2 := h2.symm
    have e2 : (csr n l).A.getD k 0 = e'.2.1 := h3.symm
    rw [e1, e2, hS]; omega
theorem eds_csr {n : Nat} {l : List Ed} (h : buildOk n l = true) {i : Nat} (hi : i < n) : eds (csr n l) i = outs l i := by
  obtain ⟨-, hm⟩ := buildOk_mem h
  have h0 : ∀ e ∈ l, 0 ≤ e.1 := fun e he => (hm e he).1
  unfold eds edsN
  rw [csr_st l (show i + 1 ≤ n by omega), csr_st l (show i ≤ n by omega), cntLt_succ]
  have hc : cntLt l i + cnt l i - cntLt l i = cnt l i := by omega
  rw [hc]
  apply List.ext_getElem?
  intro r
  rw [List.getElem?_map]
  by_cases hr : r < cnt l i
  · rw [List.getElem?_range' hr]
    have hr' : r < (outs l i).length := hr
    have e : cntLt l i + 1 * r = cntLt l i + r := by omega
    have hA := flat_get h0 (fun e => e.2.1) n i r hi hr
    have hT := flat_get h0 (fun e => e.2.2) n i r hi hr
    have hx : (outs l i)[r] ∈ outs l i := List.getElem_mem hr'
    have hx1 : (outs l i)[r].1 = (i : Int) := by
      have := (List.mem_filter.1 hx).2
      simpa using this
    rw [e, List.getElem?_eq_getElem hr', Option.map_some]
    congr 1
    have hg : (outs l i).getD r (0, 0, 0) = (outs l i)[r] := by simp [List.getD, hr']
    rw [hg] at hA hT
    unfold edge
    show ((i : Int), (flat n l _).getD _ 0, (flat n l _).getD _ 0) = _
    rw [hA, hT, ← hx1]
  · rw [List.getElem?_eq_none (by simp; omega), List.getElem?_eq_none (show (outs l i).length ≤ r from by unfold cnt at hr; omega)]; rfl
theorem allL_csr {n : Nat} {l : List Ed} (h : buildOk n l = true) : allL (csr n l) = (List.range n).flatMap (outs l) := by
  rw [allL_right (csr_right h), span_flat, csr_S_len]
  have : n + 1 - 1 = n := by omega
  rw [this]
  have hc : ∀ m, m ≤ n → (List.range m).flatMap (eds (csr n l)) = (List.range m).flatMap (outs l) := by
    intro m
    induction m with
    | zero => intro _; rfl
    | succ m ih => intro hm; rw [List.range_succ, List.flatMap_append, List.flatMap_append, ih (by omega)]; simp [eds_csr h (show m < n by omega)]
  exact hc n (Nat.le_refl _)
theorem mem_all_csr {n : Nat} {l : List Ed} (h : buildOk n l = true) (e : Ed) : e ∈ allL (csr n l) ↔ e ∈ l := by
  obtain ⟨-, hm⟩ := buildOk_mem h
  rw [allL_csr h]
  simp only [List.mem_flatMap, List.mem_range, outs, List.mem_filter, decide_eq_true_eq]
  constructor
  · rintro ⟨i, -, he, -⟩; exact he
  · intro he
    have := hm e he
    exact ⟨e.1.toNat, by omega, he, by omega⟩
theorem countP_sort (p : Ed → Bool) (l : List Ed) (h0 : ∀ e ∈ l, 0 ≤ e.1) : ∀ n : Nat, ((List.range n).flatMap (outs l)).countP p = l.countP (fun e => p e && decide (e.1 < (n : Int)))
  | 0 => by
    have e0 : l.countP (fun e => p e && decide (e.1 < ((0 : Nat) : Int))) = 0 := List.countP_eq_zero.2 (fun e he => by have := h0 e he; simp; omega)
    rw [e0]; rfl
  | n + 1 => by
    rw [List.range_succ, List.flatMap_append, List.countP_append, countP_sort p l h0 n]
    simp only [List.flatMap_cons, List.flatMap_nil, List.append_nil, outs, List.countP_filter]
    clear h0
    induction l with
    | nil => rfl
    | cons e l ih =>
      simp only [List.countP_cons]
      by_cases hp : p e = true
      · by_cases h1 : e.1 < (n : Int)
        · have h2 : e.1 < ((n + 1 : Nat) : Int) := by omega
          have h3 : ¬ e.1 = (n : Int) := by omega
          simp only [hp, h1, h2, h3, decide_true, decide_false, Bool.and_self, Bool.and_false, if_true, Bool.false_eq_true, if_false]; omega
        · by_cases h3 : e.1 = (n : Int)
          · have h2 : e.1 < ((n + 1 : Nat) : Int) := by omega
            simp only [hp, h3, decide_true, Bool.true_and]
            have h4 : ¬ ((n : Int) < (n : Int)) := by omega
            have h5 : ((n : Int) < ((n + 1 : Nat) : Int)) := by omega
            simp only [h4, h5, decide_true, decide_false, Bool.false_eq_true, if_false, if_true]; omega
          · have h2 : ¬ e.1 < ((n + 1 : Nat) : Int) := by omega
            simp only [hp, h1, h2, h3, decide_false, Bool.and_false, Bool.false_eq_true, if_false]; omega
      · have hp' : p e = false := by simpa using hp
        simp only [hp', Bool.false_and, Bool.false_eq_true, if_false]; omega
theorem countP_all_csr (p : Ed → Bool) {n : Nat} {l : List Ed} (h : buildOk n l = true) : (allL (csr n l)).countP p = l.countP p := by
  obtain ⟨-, hm⟩ := buildOk_mem h
  rw [allL_csr h, countP_sort p l (fun e he => (hm e he).1)]
  apply List.countP_congr
  intro e he
  have := hm e he
  simp; omega
/-- an edge of a right graph -/
theorem allL_mem {g : Gr} (h : Rt g) {e : Ed} (he : e ∈ allL g) : 0 ≤ e.1 ∧ e.1 + 1 < g.S.length ∧ 0 ≤ e.2.2 ∧ e.2.2 + 1 < g.S.length ∧ 0 ≤ e.2.1 := by
  rw [allL_right h, span_flat] at he
  obtain ⟨i, hi, he⟩ := List.mem_flatMap.1 he
  rw [List.mem_range] at hi
  simp only [eds, edsN, List.mem_map, List.mem_range'] at he
  obtain ⟨k, ⟨r, hr, rfl⟩, rfl⟩ := he
  have h1 := h.stTop (i := i + 1) (by omega)
  have h2 := h.tos (st g i + 1 * r) (by omega)
  simp only [edge]
  omega
theorem allL_len {g : Gr} (h : Rt g) : (allL g).length = g.T.length := by
  have hne := h.ne
  have h1 := span_len h 0 (g.S.length - 1) (by omega)
  rw [allL_right h, h1]
  have h2 := h.last
  rw [h.st (by omega)] at h2
  have h3 : st g 0 = 0 := by unfold st; rw [h.first]; rfl
  rw [h3, Nat.zero_add]; omega
end Go.Proofs.Ytnlaonppgebpoaa
