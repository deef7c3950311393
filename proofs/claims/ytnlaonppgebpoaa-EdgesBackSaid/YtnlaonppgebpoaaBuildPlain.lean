/-
  The plain theory of a graph's edges, node by node (counting sort): no program in sight.
-/
import Derived.Test.YtnlaonppgebpoaaData
namespace Go.Proofs.Ytnlaonppgebpoaa
open Go.RowKit

/-- lists over numbers 0 .. m-1 -/
def tab {α : Type} (m : Nat) (f : Nat → α) : List α := (List.range m).map f
theorem tab_len {α : Type} (m : Nat) (f : Nat → α) : (tab m f).length = m := by simp [tab]
theorem tab_get {α : Type} (m : Nat) (f : Nat → α) (z : α) (j : Nat) (hj : j < m) : (tab m f).getD j z = f j := by simp [tab, List.getD, hj]
theorem tab_set {α : Type} (m : Nat) (f g : Nat → α) (j : Nat) (v : α) (hv : j < m → g j = v) (hg : ∀ x, x < m → x ≠ j → g x = f x) : (tab m f).set j v = tab m g := by
  apply List.ext_getElem?
  intro i
  simp only [tab, List.getElem?_set, List.getElem?_map, List.length_map, List.length_range]
  by_cases hi : i < m
  · by_cases hij : j = i
    · subst hij; simp [hi, hv hi]
    · simp [hij, hi, hg i hi (fun e => hij e.symm)]
  · by_cases hij : j = i
    · subst hij; simp [hi]
    · simp [hij, hi]
theorem tab_congr {α : Type} (m : Nat) (f g : Nat → α) (h : ∀ j, j < m → f j = g j) : tab m f = tab m g := by
  unfold tab; apply List.map_congr_left; intro a ha; exact h a (List.mem_range.1 ha)

/-- can an edge be, of n nodes? -/
def okE (n : Int) (e : Ed) : Bool := decide (0 ≤ e.1 ∧ e.1 < n ∧ 0 ≤ e.2.2 ∧ e.2.2 < n ∧ 0 ≤ e.2.1)
def outs (l : List Ed) (i : Nat) : List Ed := l.filter (fun e => decide (e.1 = (i : Int)))
def cnt (l : List Ed) (i : Nat) : Nat := (outs l i).length
def cntLt (l : List Ed) (i : Nat) : Nat := (l.filter (fun e => decide (e.1 < (i : Int)))).length

theorem cntLt_succ (l : List Ed) (i : Nat) : cntLt l (i + 1) = cntLt l i + cnt l i := by
  unfold cntLt cnt outs
  induction l with
  | nil => rfl
  | cons e l ih =>
    simp only [List.filter_cons]
    by_cases h1 : e.1 < (i : Int)
    · have h2 : e.1 < ((i + 1 : Nat) : Int) := by omega
      have h3 : ¬ e.1 = (i : Int) := by omega
      simp only [h1, h2, h3, decide_true, decide_false, if_true, List.length_cons, Bool.false_eq_true, if_false, ih]; omega
    · by_cases h3 : e.1 = (i : Int)
      · have h2 : e.1 < ((i + 1 : Nat) : Int) := by omega
        simp only [h3, decide_true, if_true, List.length_cons]
        have h4 : ¬ ((i : Int) < (i : Int)) := by omega
        have h5 : ((i : Int) < ((i + 1 : Nat) : Int)) := by omega
        simp only [h4, h5, decide_true, decide_false, if_true, Bool.false_eq_true, if_false, List.length_cons, ih]; omega
      · have h2 : ¬ e.1 < ((i + 1 : Nat) : Int) := by omega
        simp only [h1, h2, h3, decide_false, Bool.false_eq_true, if_false, ih]
theorem cntLt_zero {l : List Ed} (h : ∀ e ∈ l, 0 ≤ e.1) : cntLt l 0 = 0 := by
  unfold cntLt
  rw [List.length_eq_zero_iff, List.filter_eq_nil_iff]
  intro e he; have := h e he; simp; omega
theorem cntLt_all {l : List Ed} {n : Nat} (h : ∀ e ∈ l, e.1 < (n : Int)) : cntLt l n = l.length := by
  unfold cntLt
  rw [List.filter_eq_self.2]
  intro e he; simpa using h e he
theorem cntLt_mono (l : List Ed) {i j : Nat} (h : i ≤ j) : cntLt l i ≤ cntLt l j := by
  induction j with
  | zero => obtain rfl : i = 0 := by omega
            exact Nat.le_refl _
  | succ j ih =>
    by_cases hij : i = j + 1
    · rw [hij]; exact Nat.le_refl _
    · rw [cntLt_succ]; have := ih (by omega); omega
theorem cnt_take_succ (l : List Ed) (k i : Nat) (hk : k < l.length) : cnt (l.take (k + 1)) i = cnt (l.take k) i + if (l.getD k (0, 0, 0)).1 = (i : Int) then 1 else 0 := by
  unfold cnt outs
  rw [List.take_add_one, List.getElem?_eq_getElem hk, Option.toList_some, List.filter_append, List.length_append]
  have : l.getD k (0, 0, 0) = l[k] := by simp [List.getD, hk]
  rw [this]
  by_cases h : l[k].1 = (i : Int) <;> simp [h]
theorem cnt_take_le (l : List Ed) (k i : Nat) : cnt (l.take k) i ≤ cnt l i := by
  unfold cnt outs
  exact (List.Sublist.filter _ (List.take_sublist k l)).length_le
theorem outs_at (l : List Ed) (k f : Nat) (hk : k < l.length) (hf : (l.getD k (0, 0, 0)).1 = (f : Int)) : cnt (l.take k) f < cnt l f ∧ (outs l f).getD (cnt (l.take k) f) (0, 0, 0) = l.getD k (0, 0, 0) := by
  have e : l.getD k (0, 0, 0) = l[k] := by simp [List.getD, hk]
  rw [e] at hf ⊢
  have hsplit : outs l f = outs (l.take k) f ++ l[k] :: outs (l.drop (k + 1)) f := by
    unfold outs
    have h1 : l = l.take k ++ l[k] :: l.drop (k + 1) := by
      rw [List.getElem_cons_drop, List.take_append_drop]
    conv => lhs; rw [h1]
    rw [List.filter_append, List.filter_cons]
    simp [hf]
  constructor
  · unfold cnt; rw [hsplit]; simp
  · rw [hsplit]; unfold cnt; simp [List.getD]

/-- the graph of right edges: those of node 0, of node 1, .. -/
def flat (n : Nat) (l : List Ed) (h : Ed → Int) : List Int := (List.range n).flatMap (fun i => (outs l i).map h)
def csr (n : Nat) (l : List Ed) : Gr := ⟨tab (n + 1) (fun i => (cntLt l i : Int)), flat n l (fun e => e.2.1), flat n l (fun e => e.2.2)⟩
def buildOk (n : Int) (l : List Ed) : Bool := decide (0 ≤ n ∧ n ≤ 100000) && l.all (okE n)
def buildG (n : Int) (l : List Ed) : Gr := if buildOk n l = true then csr n.toNat l else ⟨[], [], []⟩
def buildE (n : Int) (l : List Ed) : Int := if buildOk n l = true then 0 else 1

theorem flat_succ (n : Nat) (l : List Ed) (h : Ed → Int) : flat (n + 1) l h = flat n l h ++ (outs l n).map h := by
  simp [flat, List.range_succ]
theorem flat_len {l : List Ed} (h0 : ∀ e ∈ l, 0 ≤ e.1) (h : Ed → Int) : ∀ n, (flat n l h).length = cntLt l n
  | 0 => by rw [cntLt_zero h0]; simp [flat]
  | n + 1 => by rw [flat_succ, List.length_append, flat_len h0 h n, cntLt_succ, List.length_map]; rfl
theorem flat_get {l : List Ed} (h0 : ∀ e ∈ l, 0 ≤ e.1) (h : Ed → Int) : ∀ n i r, i < n → r < cnt l i → (flat n l h).getD (cntLt l i + r) 0 = h ((outs l i).getD r (0, 0, 0))
  | 0, i, r, hi, _ => by omega
  | n + 1, i, r, hi, hr => by
    rw [flat_succ]
    have hl := flat_len h0 h n
    by_cases hin : i = n
    · subst hin
      have hr' : r < (outs l i).length := hr
      simp only [List.getD]
      rw [List.getElem?_append_right (by omega), hl]
      simp [hr']
    · have hlt : cntLt l i + r < cntLt l n := by
        have := cntLt_mono l (show i + 1 ≤ n by omega)
        rw [cntLt_succ] at this; omega
      have := flat_get h0 h n i r (by omega) hr
      simp only [List.getD] at this ⊢
      rw [List.getElem?_append_left (by omega)]; exact this
theorem bucket {l : List Ed} (h0 : ∀ e ∈ l, 0 ≤ e.1) : ∀ n p, p < cntLt l n → ∃ i r, i < n ∧ r < cnt l i ∧ p = cntLt l i + r
  | 0, p, hp => by rw [cntLt_zero h0] at hp; omega
  | n + 1, p, hp => by
    by_cases h : p < cntLt l n
    · obtain ⟨i, r, h1, h2, h3⟩ := bucket h0 n p h
      exact ⟨i, r, by omega, h2, h3⟩
    · rw [cntLt_succ] at hp
      exact ⟨n, p - cntLt l n, by omega, by omega, by omega⟩
theorem bucket_eq {l : List Ed} {i j r s : Nat} (hr : r < cnt l i) (hs : s < cnt l j) (h : cntLt l i + r = cntLt l j + s) : i = j ∧ r = s := by
  have hij : i = j := by
    apply Classical.byContradiction; intro hne
    rcases Nat.lt_or_gt_of_ne hne with hlt | hgt
    · have := cntLt_mono l (show i + 1 ≤ j from hlt); rw [cntLt_succ] at this; omega
    · have := cntLt_mono l (show j + 1 ≤ i from hgt); rw [cntLt_succ] at this; omega
  subst hij; exact ⟨rfl, by omega⟩

/-- what of the edges' row is there when k edges are copied -/
def Copied (n : Nat) (l : List Ed) (h : Ed → Int) (k : Nat) (A : List Int) : Prop :=
  A.length = l.length ∧ ∀ i, i < n → ∀ r, r < cnt (l.take k) i → A.getD (cntLt l i + r) 0 = h ((outs l i).getD r (0, 0, 0))
theorem copied_end {n : Nat} {l : List Ed} {h : Ed → Int} {A : List Int} (h0 : ∀ e ∈ l, 0 ≤ e.1) (hn : ∀ e ∈ l, e.1 < (n : Int)) (hc : Copied n l h l.length A) : A = flat n l h := by
  have hl := flat_len h0 h n
  rw [cntLt_all hn] at hl
  apply List.ext_getElem?
  intro p
  by_cases hp : p < l.length
  · obtain ⟨i, r, h1, h2, h3⟩ := bucket h0 n p (by rw [cntLt_all hn]; exact hp)
    have e1 := hc.2 i h1 r (by rw [List.take_length]; exact h2)
    have e2 := flat_get h0 h n i r h1 h2
    rw [← h3] at e1 e2
    rw [← e2] at e1
    have hA : p < A.length := by rw [hc.1]; exact hp
    have hF : p < (flat n l h).length := by rw [hl]; exact hp
    rw [List.getElem?_eq_getElem hA, List.getElem?_eq_getElem hF]
    simpa [List.getD, hA, hF] using e1
  · rw [List.getElem?_eq_none (by rw [hc.1]; omega), List.getElem?_eq_none (by omega)]
theorem copied_step {n : Nat} {l : List Ed} {h : Ed → Int} {A : List Int} {k f : Nat} (hc : Copied n l h k A) (hn : ∀ e ∈ l, e.1 < (n : Int)) (hk : k < l.length) (hf : (l.getD k (0, 0, 0)).1 = (f : Int)) (hfn : f < n) :
    cntLt l f + cnt (l.take k) f < l.length ∧ Copied n l h (k + 1) (A.set (cntLt l f + cnt (l.take k) f) (h (l.getD k (0, 0, 0)))) := by
  obtain ⟨q1, q2⟩ := outs_at l k f hk hf
  have hlt : cntLt l f + cnt (l.take k) f < l.length := by
    have h1 := cntLt_mono l (show f + 1 ≤ n from hfn)
    rw [cntLt_succ, cntLt_all hn] at h1; omega
  refine ⟨hlt, by rw [List.length_set]; exact hc.1, ?_⟩
  intro i hi r hr
  rw [cnt_take_succ l k i hk, hf] at hr
  by_cases hp : cntLt l f + cnt (l.take k) f = cntLt l i + r
  · rw [← hp, getD_set_same _ _ _ _ (by rw [hc.1]; exact hlt)]
    have hr' : r < cnt l i := by
      have := cnt_take_le l (k + 1) i
      rw [cnt_take_succ l k i hk, hf] at this; omega
    obtain ⟨rfl, rfl⟩ := bucket_eq q1 hr' hp
    rw [q2]
  · rw [getD_set_other _ _ _ _ _ hp]
    apply hc.2 i hi r
    by_cases hif : (f : Int) = (i : Int)
    · have : f = i := by omega
      subst this
      simp at hr
      have : r ≠ cnt (l.take k) f := fun e => hp (by rw [e])
      omega
    · rw [if_neg hif] at hr; omega

/-- the row of starts, on its way -/
def st1 (n : Nat) (l : List Ed) : List Int := tab (n + 1) (fun j => if j = 0 then 0 else (cnt l (j - 1) : Int))
theorem st1_nil (n : Nat) : st1 n [] = List.replicate (n + 1) 0 := by
  apply List.ext_getElem?
  intro i
  simp only [st1, tab, List.getElem?_map, List.getElem?_replicate]
  by_cases hi : i < n + 1 <;> simp [hi, cnt, outs]
theorem st1_step {n : Nat} {l : List Ed} {k f : Nat} (hk : k < l.length) (hf : (l.getD k (0, 0, 0)).1 = (f : Int)) (hfn : f < n) :
    (st1 n (l.take k)).getD (f + 1) 0 = (cnt (l.take k) f : Int) ∧ (st1 n (l.take k)).set (f + 1) ((cnt (l.take k) f : Int) + 1) = st1 n (l.take (k + 1)) := by
  constructor
  · rw [st1, tab_get _ _ _ _ (by omega)]; simp
  · apply tab_set
    · intro _
      rw [if_neg (by omega), cnt_take_succ l k _ hk, hf]; simp
    · intro x _ hne
      by_cases hx : x = 0
      · simp [hx]
      · rw [if_neg hx, if_neg hx, cnt_take_succ l k _ hk, hf, if_neg (by omega)]; simp
def st2 (n : Nat) (l : List Ed) (i : Nat) : List Int := tab (n + 1) (fun j => if j ≤ i then (cntLt l j : Int) else (cnt l (j - 1) : Int))
theorem st2_zero (n : Nat) {l : List Ed} (h0 : ∀ e ∈ l, 0 ≤ e.1) : st1 n l = st2 n l 0 := by
  apply tab_congr
  intro j _
  by_cases hj : j = 0
  · subst hj; simp [cntLt_zero h0]
  · rw [if_neg hj, if_neg (by omega)]
theorem st2_end (n : Nat) (l : List Ed) : st2 n l n = (csr n l).S := by
  apply tab_congr
  intro j hj
  rw [if_pos (by omega)]
theorem st2_step {n : Nat} {l : List Ed} {i : Nat} (hi : i < n) :
    (st2 n l i).getD (i + 1) 0 = (cnt l i : Int) ∧ (st2 n l i).getD i 0 = (cntLt l i : Int) ∧ (st2 n l i).set (i + 1) ((cnt l i : Int) + (cntLt l i : Int)) = st2 n l (i + 1) := by
  refine ⟨?_, ?_, ?_⟩
  · rw [st2, tab_get _ _ _ _ (by omega), if_neg (by omega)]; simp
  · rw [st2, tab_get _ _ _ _ (by omega), if_pos (by omega)]
  · apply tab_set
    · intro _; rw [if_pos (by omega), cntLt_succ]; omega
    · intro x _ hne
      by_cases hx : x ≤ i
      · rw [if_pos hx, if_pos (by omega)]
      · rw [if_neg hx, if_neg (by omega)]
def nx (n : Nat) (l : List Ed) (k : Nat) : List Int := tab (n + 1) (fun j => (cntLt l j : Int) + (cnt (l.take k) j : Int))
theorem nx_zero (n : Nat) (l : List Ed) : nx n l 0 = (csr n l).S := by
  apply tab_congr; intro j _; simp [cnt, outs]
theorem nx_step {n : Nat} {l : List Ed} {k f : Nat} (hk : k < l.length) (hf : (l.getD k (0, 0, 0)).1 = (f : Int)) (hfn : f < n) :
    (nx n l k).getD f 0 = ((cntLt l f + cnt (l.take k) f : Nat) : Int) ∧ (nx n l k).set f (((cntLt l f + cnt (l.take k) f : Nat) : Int) + 1) = nx n l (k + 1) := by
  constructor
  · rw [nx, tab_get _ _ _ _ (by omega)]; simp
  · apply tab_set
    · intro _; rw [cnt_take_succ l k _ hk, hf]; simp; omega
    · intro x _ hne
      rw [cnt_take_succ l k _ hk, hf, if_neg (by omega)]; simp
theorem csr_S_len (n : Nat) (l : List Ed) : (csr n l).S.length = n + 1 := tab_len _ _
end Go.Proofs.Ytnlaonppgebpoaa
