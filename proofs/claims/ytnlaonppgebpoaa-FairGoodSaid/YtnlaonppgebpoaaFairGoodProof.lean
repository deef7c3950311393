/-
  Proved: whether any part is good, and whether an agent acts in it, is as the document says (FairGood). No conditions: every table, every part, every mode, every agent.
-/
import Derived.Test.YtnlaonppgebpoaaLawGood
import Derived.Test.YtnlaonppgebpoaaArgs
namespace Go.Proofs.Ytnlaonppgebpoaa
namespace fairGoodLaw
open Go.ChangeShapes Go.WideShapes Go.ChangeAt Go.RowKit Go.ChangeMaps

theorem own : ownKnob Try.prog.godebug = none := by kernel_rfl
theorem laidOut : laidOutB Try.prog = true := by kernel_rfl

set_option maxRecDepth 100000 in
theorem lifted (os : Os) (started : os.Started) (H : Type) (enc : TypeId × Value → H) :
    ReturnsInHanded {} Try.checked os 14 .any (Rows.fairGoodSpec.pre6 enc Try.prog Try.f14 Rows.fairGoodRow.domain false) (Rows.fairGoodSpec.post enc Try.prog Try.f14 false true false false) := by
  refine returnsInHanded_of_change (C := Try.checked) own started (by kernel_rfl) Try.func14
    (ChangeSpec.witness6 (enc := enc) (C := Try.checked) false ⟨#[], #[.agg #[.slice none 0 0, .slice none 0 0, .slice none 0 0, .slice none 0 0, .int .i64 0], .slice none 0 0, .agg #[.int .i64 0, .int .i64 0]], []⟩ 8 (by kernel_rfl) (by kernel_rfl) (by kernel_rfl) (by kernel_rfl)) ?_
  intro W base args ds gs before hval0 hW hcnd _
  have hval : ∀ (j : Nat) t v, Try.f14.params[j]? = some t → args[j]? = some v → Value.okWide Try.prog W .any base t v := hval0
  have hW' := hW
  obtain ⟨p, q, hA0, hV, rfl, hfz, hnd⟩ := hW
  have hA : DataW.TrodAll enc Try.prog W 0 (fun _ => true) true Try.f14.params.toList args.toList ds p := hA0
  rw [Try.params14] at hA hval
  obtain ⟨v0, vs0, d0, ds0, p0, q0, hargs, rfl, rfl, h0, r0⟩ := trodAll_cons hA
  obtain ⟨v1, vs1, d1, ds1, p1, q1, rfl, rfl, rfl, h1, r1⟩ := trodAll_cons r0
  obtain ⟨v2, vs2, d2, ds2, p2, q2, rfl, rfl, rfl, h2, r2⟩ := trodAll_cons r1
  obtain ⟨rfl, rfl, rfl⟩ := trodAll_nil r2
  obtain rfl : args = #[v0, v1, v2] := by cases args; simp_all
  obtain ⟨rfl, rfl⟩ := trodVars_none hV
  obtain ⟨g0, en0, ag0, hT0⟩ := arg_table (hval 0 55 v0 rfl rfl) h0
  obtain ⟨l1, hI1, hl1, hb1⟩ := arg_ints (hval 1 24 v1 rfl rfl) h1
  have hc1 := arg_cap (hval 1 24 v1 rfl rfl) h1
  obtain ⟨x2, y2, rfl, hw2, hz2⟩ := arg_two (hval 2 60 v2 rfl rfl) h2
  refine (fairGood v0 v1 g0 en0 ag0 l1 x2 y2 W hT0 hI1 hl1 hb1 hw2 hz2).mono fun e W' ⟨he, hb⟩ => ?_
  subst he
  exact ⟨_, rfl, post_law (T := 4) laidOut (of_decide_eq_true (by kernel_rfl)) rfl Try.underlying4 rfl hW' rfl hb⟩

theorem proved : Rows.FairGoodSaid :=
  OpenClaim.holds_of_wide 14 Try.f14 rfl rfl rfl rfl rfl rfl rfl ⟨rfl, rfl, rfl, rfl, rfl⟩ rfl rfl rfl rfl rfl (by kernel_rfl) Try.func14 (by kernel_rfl)
    (of_decide_eq_true (by kernel_rfl)) (by unfold Func.isWrapper; first | (rw [if_pos (by decide +kernel)]; kernel_rfl) | (rw [if_neg (by decide +kernel)]; exact ⟨rfl, rfl⟩))
    (fun os started H enc _ => lifted os started H enc)
#print axioms proved
end fairGoodLaw
end Go.Proofs.Ytnlaonppgebpoaa
