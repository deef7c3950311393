/-
  Proved: two tables that are given the same texts number them alike, and share nothing (InternApart). No conditions: every list of texts, every text.
-/
import Derived.Test.YtifbilmeecndgaaLaws
import Derived.Test.YtifbilmeecndgaaLaw
namespace Go.Proofs.Ytifbilmeecndgaa
namespace apartLaw
open Go.ChangeShapes Go.WideShapes Go.ChangeAt Go.RowKit Go.ChangeMaps

theorem own : ownKnob Try.prog.godebug = none := by kernel_rfl
theorem laidOut : laidOutB Try.prog = true := by kernel_rfl
theorem cells9 : Try.prog.cellsOf 9 = 1 := by kernel_rfl

set_option maxRecDepth 100000 in
theorem lifted (os : Os) (started : os.Started) (H : Type) (enc : TypeId × Value → H) :
    ReturnsInHanded {} Try.checked os 6 .any (Rows.internApartSpec.pre6 enc Try.prog Try.f6 Rows.internApartRow.domain false) (Rows.internApartSpec.post enc Try.prog Try.f6 false true false false) := by
  refine returnsInHanded_of_change (C := Try.checked) own started (by kernel_rfl) Try.func6
    (ChangeSpec.witness6 (enc := enc) (C := Try.checked) false ⟨#[], #[.slice none 0 0, .string ByteArray.empty], []⟩ 8 (by kernel_rfl) (by kernel_rfl) (by kernel_rfl) (by kernel_rfl)) ?_
  intro W base args ds gs before hval0 hW hcnd _
  have hval : ∀ (j : Nat) t v, Try.f6.params[j]? = some t → args[j]? = some v → Value.okWide Try.prog W .any base t v := hval0
  have hW' := hW
  obtain ⟨p, q, hA0, hV, rfl, hfz, hnd⟩ := hW
  have hA : DataW.TrodAll enc Try.prog W 0 (fun _ => true) true Try.f6.params.toList args.toList ds p := hA0
  rw [Try.params6] at hA hval
  obtain ⟨v0, vs0, d0, ds0, p0, q0, hargs, rfl, rfl, h0, r0⟩ := trodAll_cons hA
  obtain ⟨v1, vs1, d1, ds1, p1, q1, rfl, rfl, rfl, h1, r1⟩ := trodAll_cons r0
  obtain ⟨rfl, rfl, rfl⟩ := trodAll_nil r1
  obtain rfl : args = #[v0, v1] := by cases args; simp_all
  obtain ⟨rfl, rfl⟩ := trodVars_none hV
  obtain ⟨s, rfl, e1, e2, hs⟩ := open_string Try.underlying9 (hval 1 9 v1 rfl rfl) h1
  obtain ⟨l, hl, hll, hlz⟩ : ∃ l, StrsAt W v0 l ∧ l.length ≤ maxLen ∧ ∀ s ∈ l, s.size ≤ maxLen := by
    obtain ⟨a0, len, cap, rfl⟩ := okWide_slice Try.underlying22 (hval 0 22 v0 rfl rfl)
    obtain ⟨fuel, hf⟩ := h0
    rcases open_strings Try.underlying22 Try.underlying9 cells9 hf with ⟨hcs, hx⟩ | ⟨a, len', cap', ss, hcs, _, hlc, hm, hz, hx, hcell, hws⟩
    · simp only [Value.cells] at hcs
      cases hcs
      exact ⟨[], strsAt_nil W, by simp, by simp⟩
    · simp only [Value.cells] at hcs
      cases hcs
      have hsl : len ≤ ss.length := by rw [hz]; split <;> omega
      have htl : (ss.take len).length = len := by simp; omega
      refine ⟨ss.take len, ⟨some a, cap, by rw [htl], ?_⟩, by rw [htl]; omega, fun x hx => hws x (List.mem_of_mem_take hx)⟩
      intro j hj
      rw [htl] at hj
      obtain ⟨b, off, rfl, hc⟩ := cells_at (n := len) (f := fun i => .string (ss.getD i ByteArray.empty)) (fun i hi => hcell i (by omega)) (by omega)
      refine ⟨b, off, rfl, ?_⟩
      rw [hc j hj]
      simp [List.getD, hj]
  refine (lawApart v0 l s W hl (by unfold maxLen at hll; omega) (fun x hx => by have := hlz x hx; unfold maxLen at this; omega) (by unfold maxLen at hs; omega)).mono fun e W' ⟨he, hb⟩ => ?_
  subst he
  exact ⟨_, rfl, post_law (T := 4) laidOut (of_decide_eq_true (by kernel_rfl)) rfl Try.underlying4 rfl hW' rfl hb⟩

theorem proved : Rows.InternApartSaid :=
  OpenClaim.holds_of_wide 6 Try.f6 rfl rfl rfl rfl rfl rfl rfl ⟨rfl, rfl, rfl, rfl, rfl⟩ rfl rfl rfl rfl rfl (by kernel_rfl) Try.func6 (by kernel_rfl)
    (of_decide_eq_true (by kernel_rfl)) (by unfold Func.isWrapper; first | (rw [if_pos (by decide +kernel)]; kernel_rfl) | (rw [if_neg (by decide +kernel)]; exact ⟨rfl, rfl⟩))
    (fun os started H enc _ => lifted os started H enc)
#print axioms proved
end apartLaw
end Go.Proofs.Ytifbilmeecndgaa
