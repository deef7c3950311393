/-
  append of a whole list of edges (none, too) to a row of the call's own.
-/
import Derived.Test.YtnlaonppgebpoaaLawBuild
import Derived.Maps.AppendAt
namespace Go.Proofs.Ytnlaonppgebpoaa
open Go.RowKit

theorem run_append_nilx (w : World) (ty : TypeId) (base : Nat) (v : Value) (n : Nat) (xs : List Value) (hown : w.ownsRow base 44 3 v n xs) (c : Nat) :
    (Builtin.append_ #[22, 22] ty #[v, .slice none 0 c]).run Try.prog w = .ok v w := by
  obtain ⟨i, hi, hz, hsize, hby⟩ := info_parts Try.info44
  rcases hown.2 with ⟨rfl, rfl⟩ | ⟨g, cap, cur, rfl, hbg, hg, hnc, hcm, hcs, htake⟩
  · simp [Builtin.append_, run_underlying Try.underlying22, sizeOf, typeInfo, hi, Builtin.lenOf, Builtin.firstCells]
  · simp [Builtin.append_, run_underlying Try.underlying22, sizeOf, typeInfo, hi, Builtin.lenOf, Builtin.firstCells, hnc, storeCells, Result.andThen]

theorem wpList_append_edges (w : World) {ops : Array Oper} {rest : List Oper} {o : Oper} {a : Act} {Q : Exit → Act → World → Prop} (hgd : o.guard = none) (s x : Operand)
    (ho : o.op = .call { callee := .builtin .append, args := #[s, x], argTypes := #[22, 22] }) (base : Nat) (v : Value) (n : Nat) (xs : List Value) (hs : a.eval s = v) (hown : w.ownsRow base 44 3 v n xs)
    (xv : Value) (l : List Ed) (hx : a.eval x = xv) (hE : EdgesAt w xv l) (h63 : n + l.length ≤ 1000000) (hbase : base ≤ w.heap.size)
    (h : ∀ v' w', w'.ownsRow base 44 3 v' (n + l.length) (xs ++ edCells l) → w.grownBy w' v.ownBlock → wpList Try.prog ops Q rest (a.put o.dst v') w') : wpList Try.prog ops Q (o :: rest) a w := by
  obtain ⟨xa, c, rfl, hc⟩ := hE
  obtain ⟨i, hi, hz, hsize, hby⟩ := info_parts Try.info44
  rcases xa with _ | ad
  · have hl : l = [] := by
      rcases l with _ | ⟨e, l⟩
      · rfl
      · obtain ⟨b, off, e, -⟩ := hc 0 (by simp); cases e
    subst hl
    refine wpList_run hgd (v := v) (w' := w) ?_ (h v w (by simpa [edCells] using hown) ⟨rfl, rfl, rfl, Nat.le_refl _, fun _ _ _ => rfl⟩)
    have hr := run_append_nilx w o.type base v n xs hown c
    unfold execOp
    simp only [ho, resolve, invoke, builtin, Sem.run_bind, Sem.run_pure, Result.andThen_ok, List.map_toArray, List.map_cons, List.map_nil, hs, hx, List.length_nil, hr]
  · have hsrc : ∀ j u, (edCells l)[j]? = some u → w.cell? (ad.add j) = some u := by
      intro j u hu
      have hj : j < l.length * 3 := by rw [← edCells_len]; exact (List.getElem?_eq_some_iff.1 hu).1
      obtain ⟨b, off, e, -⟩ := hc 0 (by omega)
      cases e
      exact edges_src (fun k hk => by obtain ⟨b', off', e, c1, c2, c3⟩ := hc k hk; cases e; exact ⟨c1, c2, c3⟩) j u hu
    obtain ⟨v', w', hr, h2, h3, -, -⟩ := run_append_own_at (P := Try.prog) w base 22 o.type 44 i _ 3 24 Try.underlying22 hi hz hsize hby rfl (by decide) v n xs hown ad l.length c (edCells l) (edCells_len l) hsrc (fun u hu => edCells_one u hu) (by unfold maxLen; omega) (by omega) hbase
    refine wpList_run hgd (v := v') (w' := w') ?_ (h v' w' h2 h3)
    unfold execOp
    simp only [ho, resolve, invoke, builtin, Sem.run_bind, Sem.run_pure, Result.andThen_ok, List.map_toArray, List.map_cons, List.map_nil, hs, hx, hr]
end Go.Proofs.Ytnlaonppgebpoaa
