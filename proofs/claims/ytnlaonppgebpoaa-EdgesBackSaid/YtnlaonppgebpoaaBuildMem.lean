/-
  edges.Build: its own memory.
-/
import Derived.Test.YtnlaonppgebpoaaData
import Derived.Test.YtnlaonppgebpoaaBuildPlain
import Derived.Laws.CopyOwn
namespace Go.Proofs.Ytnlaonppgebpoaa
open Go.RowKit
/-- a graph and an error's number, as a call hands them back -/
def GraphErr (w : World) (g : Gr) (n : Int) (e : Ending) (w' : World) : Prop :=
  ∃ v, e = .returned (.tuple #[v, .int .i64 n]) ∧ GraphAt w' v g ∧ Below w.heap.size w w'

/-- Build's own memory: the result's variable, the row of starts. -/
structure BSt (w wr : World) (S : List Int) : Prop where
  below : Below w.heap.size w wr
  res : wr.heap[w.heap.size]? = some (.cells #[.slice none 0 0, .slice none 0 0, .slice none 0 0] 26 (0, 0))
  st : wr.heap[w.heap.size + 1]? = some (.cells (ints S) 3 (0, 0))
theorem BSt.size {w wr : World} {S : List Int} (h : BSt w wr S) : w.heap.size + 1 < wr.heap.size := (Array.getElem?_eq_some_iff.1 h.st).1
theorem BSt.drew {w wr : World} {S : List Int} (h : BSt w wr S) : BSt w wr.drew S := ⟨h.below.drew, h.res, h.st⟩
theorem BSt.more {w wr w' : World} {S : List Int} (h : BSt w wr S) (hb : Below wr.heap.size wr w') : BSt w w' S :=
  ⟨h.below.trans (hb.mono h.below.size), bheap hb h.res, bheap hb h.st⟩
theorem BSt.set {w wr : World} {S : List Int} (h : BSt w wr S) (p : Nat) (v : Int) : BSt w (wr.setCell ⟨w.heap.size + 1, p, none⟩ (.int .i64 v)) (S.set p v) :=
  ⟨h.below.setCell (p := ⟨w.heap.size + 1, p, none⟩) (by show w.heap.size ≤ w.heap.size + 1; omega) _, by rw [Below.heap_setCell _ _ _ _ (by show w.heap.size ≠ w.heap.size + 1; omega)]; exact h.res,
    by rw [heap_setCell_block h.st, ints_set]⟩
theorem BSt.rcell {w wr : World} {S : List Int} (h : BSt w wr S) (p : Nat) (hp : p < 3) : wr.cell? ⟨w.heap.size, p, none⟩ = some (.slice none 0 0) := cell_of_block h.res p _ (by rcases p with _ | _ | _ | p <;> first | rfl | omega)
theorem BSt.rfree {w wr : World} {S : List Int} (h : BSt w wr S) (p : Nat) : wr.frozen? ⟨w.heap.size, p, none⟩ = false := free_of_block h.res p
theorem BSt.cell {w wr : World} {S : List Int} (h : BSt w wr S) (p : Nat) (hp : p < S.length) : wr.cell? ⟨w.heap.size + 1, p, none⟩ = some (.int .i64 (S.getD p 0)) := cell_of_block h.st p _ (ints_get S p hp)
theorem BSt.free {w wr : World} {S : List Int} (h : BSt w wr S) (p : Nat) : wr.frozen? ⟨w.heap.size + 1, p, none⟩ = false := free_of_block h.st p

theorem BSt.ret {w wr : World} {S : List Int} (h : BSt w wr S) (x y z : Value) :
    Below w.heap.size w (((wr.setCell ⟨w.heap.size, 0, none⟩ x).setCell ⟨w.heap.size, 1, none⟩ y).setCell ⟨w.heap.size, 2, none⟩ z) ∧
    (((wr.setCell ⟨w.heap.size, 0, none⟩ x).setCell ⟨w.heap.size, 1, none⟩ y).setCell ⟨w.heap.size, 2, none⟩ z).cell? ⟨w.heap.size, 0, none⟩ = some x ∧
    (((wr.setCell ⟨w.heap.size, 0, none⟩ x).setCell ⟨w.heap.size, 1, none⟩ y).setCell ⟨w.heap.size, 2, none⟩ z).cell? ⟨w.heap.size, 1, none⟩ = some y ∧
    (((wr.setCell ⟨w.heap.size, 0, none⟩ x).setCell ⟨w.heap.size, 1, none⟩ y).setCell ⟨w.heap.size, 2, none⟩ z).cell? ⟨w.heap.size, 2, none⟩ = some z := by
  have e1 := heap_setCell_block h.res 0 x
  have e2 := heap_setCell_block e1 1 y
  have e3 := heap_setCell_block e2 2 z
  refine ⟨((h.below.setCell (p := ⟨w.heap.size, 0, none⟩) (Nat.le_refl _) _).setCell (p := ⟨w.heap.size, 1, none⟩) (Nat.le_refl _) _).setCell (p := ⟨w.heap.size, 2, none⟩) (Nat.le_refl _) _, cell_of_block e3 0 _ rfl, cell_of_block e3 1 _ rfl, cell_of_block e3 2 _ rfl⟩

theorem graphErr_bad {w w' : World} {n : Int} {l : List Ed} (h : buildOk n l = false) (hb : Below w.heap.size w w') :
    GraphErr w (buildG n l) (buildE n l) (.returned (.tuple #[.agg #[.slice none 0 0, .slice none 0 0, .slice none 0 0], .int .i64 1])) w' := by
  have e1 : buildG n l = ⟨[], [], []⟩ := by simp [buildG, h]
  have e2 : buildE n l = 1 := by simp [buildE, h]
  rw [e1, e2]
  exact ⟨_, rfl, graphAt_nil _, hb⟩
theorem cnt_le (l : List Ed) (i : Nat) : cnt l i ≤ l.length := (List.filter_sublist).length_le
theorem cntLt_le (l : List Ed) (i : Nat) : cntLt l i ≤ l.length := (List.filter_sublist).length_le
theorem buildOk_at {n : Nat} {l : List Ed} {k : Nat} (hk : k < l.length) (h : buildOk n l = true) : ∃ f : Nat, (l.getD k (0, 0, 0)).1 = (f : Int) ∧ f < n := by
  simp only [buildOk, Bool.and_eq_true, List.all_eq_true, okE, decide_eq_true_eq] at h
  have := h.2 (l.getD k (0, 0, 0)) (by simp [List.getD, hk])
  exact ⟨(l.getD k (0, 0, 0)).1.toNat, by omega, by omega⟩
theorem buildOk_bad {n : Nat} {l : List Ed} {k : Nat} (hk : k < l.length) (h : ¬ okE n (l.getD k (0, 0, 0)) = true) : buildOk n l = false := by
  cases e : buildOk n l
  · rfl
  · exfalso; apply h
    simp only [buildOk, Bool.and_eq_true, List.all_eq_true] at e
    exact e.2 _ (by simp [List.getD, hk])
theorem buildOk_good {n : Nat} {l : List Ed} (hn : n ≤ 100000) (h : ∀ j, j < l.length → okE n (l.getD j (0, 0, 0)) = true) : buildOk n l = true := by
  simp only [buildOk, Bool.and_eq_true, List.all_eq_true, decide_eq_true_eq]
  refine ⟨by omega, fun e he => ?_⟩
  obtain ⟨j, hj, rfl⟩ := List.mem_iff_getElem.1 he
  have := h j hj
  simpa [List.getD, hj] using this

structure CSt (w wr : World) (n : Nat) (S A T : List Int) (ba bt bg : Nat) : Prop where
  base : BSt w wr S
  la : wr.heap[ba]? = some (.cells (ints A) 3 (0, 0))
  lt : wr.heap[bt]? = some (.cells (ints T) 3 (0, 0))
  lg : wr.heap[bg]? = some (.cells #[.slice (some ⟨w.heap.size + 1, 0, none⟩) (n + 1) (n + 1), .slice (some ⟨ba, 0, none⟩) A.length A.length, .slice (some ⟨bt, 0, none⟩) T.length T.length] 26 (0, 0))
  ha : w.heap.size + 1 < ba
  ht : w.heap.size + 1 < bt
  hg : w.heap.size + 1 < bg
  hat : ba ≠ bt
  hag : ba ≠ bg
  htg : bt ≠ bg

theorem CSt.more {w wr w' : World} {n : Nat} {S A T : List Int} {ba bt bg : Nat} (h : CSt w wr n S A T ba bt bg) (hb : Below wr.heap.size wr w') : CSt w w' n S A T ba bt bg :=
  ⟨h.base.more hb, bheap hb h.la, bheap hb h.lt, bheap hb h.lg, h.ha, h.ht, h.hg, h.hat, h.hag, h.htg⟩
theorem cst_intro {w wr w' : World} {n k : Nat} {S : List Int} (ba bt bg : Nat) (hB : BSt w wr S) (hb : Below wr.heap.size wr w')
    (la : w'.heap[ba]? = some (.cells (madeCells #[.int .i64 0] k) 3 (0, 0))) (lt : w'.heap[bt]? = some (.cells (madeCells #[.int .i64 0] k) 3 (0, 0)))
    (lg : w'.heap[bg]? = some (.cells #[.slice (some ⟨w.heap.size + 1, 0, none⟩) (n + 1) (n + 1), .slice (some ⟨ba, 0, none⟩) k k, .slice (some ⟨bt, 0, none⟩) k k] 26 (0, 0)))
    (ha : wr.heap.size ≤ ba) (ht : wr.heap.size ≤ bt) (hg : wr.heap.size ≤ bg) (hat : ba ≠ bt) (hag : ba ≠ bg) (htg : bt ≠ bg) :
    ∃ a t g : Nat, Value.pointer (some ⟨bg, 0, none⟩) = .pointer (some ⟨g, 0, none⟩) ∧ CSt w w' n S (List.replicate k 0) (List.replicate k 0) a t g := by
  have hz := hB.size
  have e : madeCells #[Value.int .i64 0] k = ints (List.replicate k 0) := by rw [ints_replicate, ← madeCells_one]
  rw [e] at la lt
  exact ⟨ba, bt, bg, rfl, hB.more hb, la, lt, by simpa using lg, by omega, by omega, by omega, hat, hag, htg⟩
theorem three_heap (w : World) (o1 o2 o3 : Obj) : (((w.alloc o1).alloc o2).alloc o3).heap[w.heap.size]? = some o1 ∧ (((w.alloc o1).alloc o2).alloc o3).heap[w.heap.size + 1]? = some o2 ∧
    (((w.alloc o1).alloc o2).alloc o3).heap[w.heap.size + 1 + 1]? = some o3 ∧ Below w.heap.size w (((w.alloc o1).alloc o2).alloc o3) := by
  have h1 := heap_alloc_new w o1
  have h2 := heap_alloc_at (w.alloc o1) o2 (w.heap.size + 1) (by simp)
  have h3 := heap_alloc_at ((w.alloc o1).alloc o2) o3 (w.heap.size + 1 + 1) (by simp)
  exact ⟨bheap (balloc _ _) (bheap (balloc _ _) h1), bheap (balloc _ _) h2, h3, (((Below.refl _ _).alloc (Nat.le_refl _) _).alloc (by simp) _).alloc (by simp; omega) _⟩

structure DSt (w wr : World) (n : Nat) (S N A T : List Int) (ba bt bg bn : Nat) : Prop where
  c : CSt w wr n S A T ba bt bg
  ln : wr.heap[bn]? = some (.cells (ints N) 3 (0, 0))
  hn : w.heap.size + 1 < bn
  han : ba ≠ bn
  htn : bt ≠ bn
  hgn : bg ≠ bn
theorem DSt.size {w wr : World} {n : Nat} {S N A T : List Int} {ba bt bg bn : Nat} (h : DSt w wr n S N A T ba bt bg bn) : w.heap.size < wr.heap.size := by
  have := h.c.base.size; omega
theorem DSt.more {w wr w' : World} {n : Nat} {S N A T : List Int} {ba bt bg bn : Nat} (h : DSt w wr n S N A T ba bt bg bn) (hb : Below wr.heap.size wr w') : DSt w w' n S N A T ba bt bg bn :=
  ⟨h.c.more hb, bheap hb h.ln, h.hn, h.han, h.htn, h.hgn⟩
theorem DSt.drew {w wr : World} {n : Nat} {S N A T : List Int} {ba bt bg bn : Nat} (h : DSt w wr n S N A T ba bt bg bn) : DSt w wr.drew n S N A T ba bt bg bn :=
  ⟨⟨h.c.base.drew, h.c.la, h.c.lt, h.c.lg, h.c.ha, h.c.ht, h.c.hg, h.c.hat, h.c.hag, h.c.htg⟩, h.ln, h.hn, h.han, h.htn, h.hgn⟩
theorem BSt.other {w wr : World} {S : List Int} (h : BSt w wr S) {q : Nat} (hq : w.heap.size + 1 < q) (p : Nat) (v : Value) : BSt w (wr.setCell ⟨q, p, none⟩ v) S :=
  ⟨h.below.setCell (p := ⟨q, p, none⟩) (by show w.heap.size ≤ q; omega) _, by rw [Below.heap_setCell _ _ _ _ (by show w.heap.size ≠ q; omega)]; exact h.res,
    by rw [Below.heap_setCell _ _ _ _ (by show w.heap.size + 1 ≠ q; omega)]; exact h.st⟩
theorem DSt.setA {w wr : World} {n : Nat} {S N A T : List Int} {ba bt bg bn : Nat} (h : DSt w wr n S N A T ba bt bg bn) (p : Nat) (v : Int) : DSt w (wr.setCell ⟨ba, p, none⟩ (.int .i64 v)) n S N (A.set p v) T ba bt bg bn := by
  have ho : ∀ (k : Nat) (o : Obj), ba ≠ k → wr.heap[k]? = some o → (wr.setCell ⟨ba, p, none⟩ (.int .i64 v)).heap[k]? = some o := fun k o hk hh => by rw [Below.heap_setCell _ _ _ _ (fun e => hk e.symm)]; exact hh
  exact ⟨⟨h.c.base.other h.c.ha p _, by rw [heap_setCell_block h.c.la, ints_set], ho _ _ h.c.hat h.c.lt, by rw [List.length_set]; exact ho _ _ h.c.hag h.c.lg, h.c.ha, h.c.ht, h.c.hg, h.c.hat, h.c.hag, h.c.htg⟩, ho _ _ h.han h.ln, h.hn, h.han, h.htn, h.hgn⟩
theorem DSt.setT {w wr : World} {n : Nat} {S N A T : List Int} {ba bt bg bn : Nat} (h : DSt w wr n S N A T ba bt bg bn) (p : Nat) (v : Int) : DSt w (wr.setCell ⟨bt, p, none⟩ (.int .i64 v)) n S N A (T.set p v) ba bt bg bn := by
  have ho : ∀ (k : Nat) (o : Obj), bt ≠ k → wr.heap[k]? = some o → (wr.setCell ⟨bt, p, none⟩ (.int .i64 v)).heap[k]? = some o := fun k o hk hh => by rw [Below.heap_setCell _ _ _ _ (fun e => hk e.symm)]; exact hh
  exact ⟨⟨h.c.base.other h.c.ht p _, ho _ _ (Ne.symm h.c.hat) h.c.la, by rw [heap_setCell_block h.c.lt, ints_set], by rw [List.length_set]; exact ho _ _ h.c.htg h.c.lg, h.c.ha, h.c.ht, h.c.hg, h.c.hat, h.c.hag, h.c.htg⟩, ho _ _ h.htn h.ln, h.hn, h.han, h.htn, h.hgn⟩
theorem DSt.setN {w wr : World} {n : Nat} {S N A T : List Int} {ba bt bg bn : Nat} (h : DSt w wr n S N A T ba bt bg bn) (p : Nat) (v : Int) : DSt w (wr.setCell ⟨bn, p, none⟩ (.int .i64 v)) n S (N.set p v) A T ba bt bg bn := by
  have ho : ∀ (k : Nat) (o : Obj), bn ≠ k → wr.heap[k]? = some o → (wr.setCell ⟨bn, p, none⟩ (.int .i64 v)).heap[k]? = some o := fun k o hk hh => by rw [Below.heap_setCell _ _ _ _ (fun e => hk e.symm)]; exact hh
  exact ⟨⟨h.c.base.other h.hn p _, ho _ _ (Ne.symm h.han) h.c.la, ho _ _ (Ne.symm h.htn) h.c.lt, ho _ _ (Ne.symm h.hgn) h.c.lg, h.c.ha, h.c.ht, h.c.hg, h.c.hat, h.c.hag, h.c.htg⟩, by rw [heap_setCell_block h.ln, ints_set], h.hn, h.han, h.htn, h.hgn⟩
theorem DSt.intro {w wc w5 : World} {n : Nat} {S N A T : List Int} {ba bt bg : Nat} (hc : CSt w wc n S A T ba bt bg) (hb : Below wc.heap.size wc w5) (ln : w5.heap[wc.heap.size]? = some (.cells (ints N) 3 (0, 0))) : DSt w w5 n S N A T ba bt bg wc.heap.size := by
  have h1 := (Array.getElem?_eq_some_iff.1 hc.la).1
  have h2 := (Array.getElem?_eq_some_iff.1 hc.lt).1
  have h3 := (Array.getElem?_eq_some_iff.1 hc.lg).1
  exact ⟨hc.more hb, ln, hc.base.size, by omega, by omega, by omega⟩
/-- what the loop reads and writes -/
theorem DSt.facts {w wr : World} {n : Nat} {S N A T : List Int} {ba bt bg bn : Nat} (h : DSt w wr n S N A T ba bt bg bn) (p f : Nat) (hf : f < N.length) :
    wr.cell? ⟨bg, 1, none⟩ = some (.slice (some ⟨ba, 0, none⟩) A.length A.length) ∧ wr.cell? ⟨bg, 2, none⟩ = some (.slice (some ⟨bt, 0, none⟩) T.length T.length) ∧
    wr.cell? ⟨bn, f, none⟩ = some (.int .i64 (N.getD f 0)) ∧ wr.frozen? ⟨ba, p, none⟩ = false ∧ wr.frozen? ⟨bt, p, none⟩ = false ∧ wr.frozen? ⟨bn, f, none⟩ = false :=
  ⟨cell_of_block h.c.lg 1 _ rfl, cell_of_block h.c.lg 2 _ rfl, cell_of_block h.ln f _ (ints_get N f hf), free_of_block h.c.la p, free_of_block h.c.lt p, free_of_block h.ln f⟩
theorem DSt.vals {w wr : World} {n : Nat} {S N A T : List Int} {ba bt bg bn : Nat} (h : DSt w wr n S N A T ba bt bg bn) (p : Nat) (ha : p < A.length) (ht : p < T.length) :
    wr.cell? ⟨ba, p, none⟩ = some (.int .i64 (A.getD p 0)) ∧ wr.cell? ⟨bt, p, none⟩ = some (.int .i64 (T.getD p 0)) :=
  ⟨cell_of_block h.c.la p _ (ints_get A p ha), cell_of_block h.c.lt p _ (ints_get T p ht)⟩
theorem DSt.lts {w wr : World} {n : Nat} {S N A T : List Int} {ba bt bg bn : Nat} (h : DSt w wr n S N A T ba bt bg bn) : ba < wr.heap.size ∧ bt < wr.heap.size ∧ bg < wr.heap.size ∧ bn < wr.heap.size :=
  ⟨(Array.getElem?_eq_some_iff.1 h.c.la).1, (Array.getElem?_eq_some_iff.1 h.c.lt).1, (Array.getElem?_eq_some_iff.1 h.c.lg).1, (Array.getElem?_eq_some_iff.1 h.ln).1⟩
theorem DSt.done {w wr : World} {n : Nat} {S N A T : List Int} {ba bt bg bn : Nat} (h : DSt w wr n S N A T ba bt bg bn) (hS : S.length = n + 1) (h1 : n ≤ 100000) (h2 : A.length ≤ 1000000) (h3 : T.length ≤ 1000000) (x y z : Value) :
    GraphAt (((wr.setCell ⟨w.heap.size, 0, none⟩ x).setCell ⟨w.heap.size, 1, none⟩ y).setCell ⟨w.heap.size, 2, none⟩ z)
      (.agg #[.slice (some ⟨w.heap.size + 1, 0, none⟩) (n + 1) (n + 1), .slice (some ⟨ba, 0, none⟩) A.length A.length, .slice (some ⟨bt, 0, none⟩) T.length T.length]) ⟨S, A, T⟩ := by
  have ho : ∀ (k : Nat) (o : Obj), w.heap.size < k → wr.heap[k]? = some o → (((wr.setCell ⟨w.heap.size, 0, none⟩ x).setCell ⟨w.heap.size, 1, none⟩ y).setCell ⟨w.heap.size, 2, none⟩ z).heap[k]? = some o := fun k o hk hh => by
    rw [Below.heap_setCell _ _ _ _ (by show k ≠ w.heap.size; omega), Below.heap_setCell _ _ _ _ (by show k ≠ w.heap.size; omega), Below.heap_setCell _ _ _ _ (by show k ≠ w.heap.size; omega)]; exact hh
  have ha := h.c.ha
  have ht := h.c.ht
  exact ⟨⟨_, _, _, rfl, intsAt_block (ho _ _ (by omega) h.c.base.st) hS.symm _, intsAt_block (ho _ _ (by omega) h.c.la) rfl _, intsAt_block (ho _ _ (by omega) h.c.lt) rfl _⟩, by show S.length ≤ _; omega, h2, h3⟩
theorem graphErr_good {w w' : World} {n : Nat} {l : List Ed} {v : Value} (h : buildOk n l = true) (hb : Below w.heap.size w w') (hv : GraphAt w' v (csr n l)) :
    GraphErr w (buildG n l) (buildE n l) (.returned (.tuple #[v, .int .i64 0])) w' := by
  have e1 : buildG n l = csr n l := by simp [buildG, h]
  have e2 : buildE n l = 0 := by simp [buildE, h]
  rw [e1, e2]
  exact ⟨_, rfl, hv, hb⟩
theorem ints_src {w : World} {b : Nat} {S : List Int} (h : w.heap[b]? = some (.cells (ints S) 3 (0, 0))) (j : Nat) (v : Value) (hv : (S.map (Value.int .i64))[j]? = some v) : w.cell? ((⟨b, 0, none⟩ : Addr).add j) = some v := by
  rw [List.getElem?_map] at hv
  obtain ⟨x, hx, rfl⟩ := Option.map_eq_some_iff.1 hv
  have hj : j < S.length := (List.getElem?_eq_some_iff.1 hx).1
  have := cell_of_block h j _ (ints_get S j hj)
  have e : S.getD j 0 = x := by simp [List.getD, hx]
  rw [e] at this
  by_cases h0 : j = 0
  · subst h0; simpa [Addr.add] using this
  · simpa [Addr.add, h0] using this
theorem ints_splice (S : List Int) (n : Nat) (hn : S.length = n) : (splice (List.replicate n (Value.int .i64 0)) 0 (S.map (Value.int .i64))).toArray = ints S := by
  unfold splice ints
  have : List.drop (0 + (S.map (Value.int .i64)).length) (List.replicate n (Value.int .i64 0)) = [] := by simp [hn]
  rw [this]; simp
/-- a guard for a walk's arm: the next operation is copy -/
theorem at_copy {P : Program} {ops : Array Oper} {rest : List Oper} {dst : Option Tmp} {ar : Array Operand} {at' : Array TypeId} {t : TypeId} {p : String} {af : Array Edge} {gd : Option (Nat × Bool)} {Q : Exit → Act → World → Prop} {a : Act} {w : World}
    (h : wpList P ops Q ({ dst := dst, op := .call { callee := .builtin .copy, args := ar, argTypes := at' }, type := t, pos := p, after := af, guard := gd } :: rest) a w) :
    wpList P ops Q ({ dst := dst, op := .call { callee := .builtin .copy, args := ar, argTypes := at' }, type := t, pos := p, after := af, guard := gd } :: rest) a w := h
end Go.Proofs.Ytnlaonppgebpoaa
