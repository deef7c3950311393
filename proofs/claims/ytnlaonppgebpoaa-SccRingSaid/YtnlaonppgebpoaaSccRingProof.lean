/-
  Proved: a ring of nodes is one part, or as many as its step asks; a line is as many as it has nodes; with the last one joined to the first one it is one (SccRing). No conditions: every two bytes.
-/
import Derived.Test.YtnlaonppgebpoaaLawRing
import Derived.Test.YtnlaonppgebpoaaArgs
namespace Go.Proofs.Ytnlaonppgebpoaa
namespace sccRingLaw
open Go.ChangeShapes Go.WideShapes Go.ChangeAt Go.RowKit Go.ChangeMaps

theorem own : ownKnob Try.prog.godebug = none := by kernel_rfl
theorem laidOut : laidOutB Try.prog = true := by kernel_rfl

set_option maxRecDepth 100000 in
theorem lifted (os : Os) (started : os.Started) (H : Type) (enc : TypeId × Value → H) :
    ReturnsInHanded {} Try.checked os 11 .any (Rows.sccRingSpec.pre6 enc Try.prog Try.f11 Rows.sccRingRow.domain false) (Rows.sccRingSpec.post enc Try.prog Try.f11 false true false false) := by
  refine returnsInHanded_of_change (C := Try.checked) own started (by kernel_rfl) Try.func11
    (ChangeSpec.witness6 (enc := enc) (C := Try.checked) false ⟨#[], #[.int .u8 0, .int .u8 0], []⟩ 8 (by kernel_rfl) (by kernel_rfl) (by kernel_rfl) (by kernel_rfl)) ?_
  intro W base args ds gs before hval0 hW hcnd _
  have hval : ∀ (j : Nat) t v, Try.f11.params[j]? = some t → args[j]? = some v → Value.okWide Try.prog W .any base t v := hval0
  have hW' := hW
  obtain ⟨p, q, hA0, hV, rfl, hfz, hnd⟩ := hW
  have hA : DataW.TrodAll enc Try.prog W 0 (fun _ => true) true Try.f11.params.toList args.toList ds p := hA0
  rw [Try.params11] at hA hval
  obtain ⟨v0, vs0, d0, ds0, p0, q0, hargs, rfl, rfl, h0, r0⟩ := trodAll_cons hA
  obtain ⟨v1, vs1, d1, ds1, p1, q1, rfl, rfl, rfl, h1, r1⟩ := trodAll_cons r0
  obtain ⟨rfl, rfl, rfl⟩ := trodAll_nil r1
  obtain rfl : args = #[v0, v1] := by cases args; simp_all
  obtain ⟨rfl, rfl⟩ := trodVars_none hV
  obtain ⟨m0, rfl, -, -, hw0⟩ := open_int Try.underlying5 (hval 0 5 v0 rfl rfl) h0
  have hr0 : 0 ≤ m0 ∧ m0 ≤ 255 := by simp only [Lit.wf, Bool.and_eq_true, decide_eq_true_eq, show IntKind.u8.min = 0 by decide, show IntKind.u8.max = 255 by decide] at hw0; exact hw0
  obtain ⟨n0, rfl⟩ : ∃ n : Nat, m0 = (n : Int) := ⟨m0.toNat, by omega⟩
  have hn0 : n0 ≤ 255 := by omega
  obtain ⟨m1, rfl, -, -, hw1⟩ := open_int Try.underlying5 (hval 1 5 v1 rfl rfl) h1
  have hr1 : 0 ≤ m1 ∧ m1 ≤ 255 := by simp only [Lit.wf, Bool.and_eq_true, decide_eq_true_eq, show IntKind.u8.min = 0 by decide, show IntKind.u8.max = 255 by decide] at hw1; exact hw1
  obtain ⟨n1, rfl⟩ : ∃ n : Nat, m1 = (n : Int) := ⟨m1.toNat, by omega⟩
  have hn1 : n1 ≤ 255 := by omega
  refine (sccRing n0 n1 W hn0 hn1).mono fun e W' ⟨he, hb⟩ => ?_
  subst he
  exact ⟨_, rfl, post_law (T := 4) laidOut (of_decide_eq_true (by kernel_rfl)) rfl Try.underlying4 rfl hW' rfl hb⟩

theorem proved : Rows.SccRingSaid :=
  OpenClaim.holds_of_wide 11 Try.f11 rfl rfl rfl rfl rfl rfl rfl ⟨rfl, rfl, rfl, rfl, rfl⟩ rfl rfl rfl rfl rfl (by kernel_rfl) Try.func11 (by kernel_rfl)
    (of_decide_eq_true (by kernel_rfl)) (by unfold Func.isWrapper; first | (rw [if_pos (by decide +kernel)]; kernel_rfl) | (rw [if_neg (by decide +kernel)]; exact ⟨rfl, rfl⟩))
    (fun os started H enc _ => lifted os started H enc)
#print axioms proved
end sccRingLaw
end Go.Proofs.Ytnlaonppgebpoaa
