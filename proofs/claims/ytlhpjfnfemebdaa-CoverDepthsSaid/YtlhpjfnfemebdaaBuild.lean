/-
  edges.Build: its own memory. edges.Build: the walk.
-/
import Derived.Deep.OwnRows
import Derived.Laws.CopyOwn
import Derived.Test.YtlhpjfnfemebdaaRows
import Derived.Test.YtlhpjfnfemebdaaJBase
namespace Go.Proofs.Ytlhpjfnfemebdaa
open Go.RowKit
def GraphErr (w : World) (g : Gr) (n : Int) (e : Ending) (w' : World) : Prop :=
 ∃ v, e = .returned (.tuple #[v, .int .i64 n]) ∧ GraphAt w' v g ∧ Below w.heap.size w w'
theorem graphErr_bad {w w' : World} {n : Int} {l : List Ed} (h : buildOk n l = false) (hb : Below w.heap.size w w') :
  GraphErr w (buildG n l) (buildE n l) (.returned (.tuple #[.agg #[.slice none 0 0, .slice none 0 0, .slice none 0 0], .int .i64 1])) w' := by
 have e1 : buildG n l = ⟨[], [], []⟩ := by simp [buildG, h]
 have e2 : buildE n l = 1 := by simp [buildE, h]
 rw [e1, e2]
 exact ⟨_, rfl, graphAt_nil _, hb⟩
theorem cntLt_le (l : List Ed) (i : Nat) : cntLt l i ≤ l.length := (List.filter_sublist).length_le
theorem buildOk_bad {n : Nat} {l : List Ed} {k : Nat} (hk : k < l.length) (h : ¬ okE n (l.getD k (0, 0, 0)) = true) : buildOk n l = false := by
 cases e : buildOk n l
 ·rfl
 ·exfalso; apply h
  simp only [buildOk, Bool.and_eq_true, List.all_eq_true] at e
  exact e.2 _ (by simp [List.getD, hk])
theorem buildOk_good {n : Nat} {l : List Ed} (hn : n ≤ 100000) (h : ∀ j, j < l.length → okE n (l.getD j (0, 0, 0)) = true) : buildOk n l = true := by
 simp only [buildOk, Bool.and_eq_true, List.all_eq_true, decide_eq_true_eq]
 refine ⟨by omega, fun e he => ?_⟩
 obtain ⟨j, hj, rfl⟩ := List.mem_iff_getElem.1 he
 have := h j hj
 simpa [List.getD, hj] using this
theorem graphErr_good {w w' : World} {n : Nat} {l : List Ed} {v : Value} (h : buildOk n l = true) (hb : Below w.heap.size w w') (hv : GraphAt w' v (csr n l)) :
  GraphErr w (buildG n l) (buildE n l) (.returned (.tuple #[v, .int .i64 0])) w' := by
 have e1 : buildG n l = csr n l := by simp [buildG, h]
 have e2 : buildE n l = 0 := by simp [buildE, h]
 rw [e1, e2]
 exact ⟨_, rfl, hv, hb⟩
end Go.Proofs.Ytlhpjfnfemebdaa
namespace Go.Proofs.Ytlhpjfnfemebdaa
open Go.RowKit
theorem Try.info3 : (Try.prog.info? 3).map (fun i => (i.zero, i.size, i.bytes)) = some (some (.int .i64 0), 1, 8) := by kernel_rfl
end Go.Proofs.Ytlhpjfnfemebdaa
