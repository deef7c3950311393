/-
  A thread goes on: step.Act.
-/
import Derived.Test.YtlhpjfnfemebdaaActA1
import Derived.Test.YtlhpjfnfemebdaaActA2
namespace Go.Proofs.Ytlhpjfnfemebdaa
open Go.RowKit
theorem act10_ok (uv cv : Value) (u : PUn) (c : Cf) (model room : Int) (t : Nat) (w : World) (hu : UnV w uv u) (hc : CfV w cv c) (hR : rightU u = true) (hL : UnL u) (hk : CfOk u 1000 c) (ht : t < u.regs.length) (hmod : model = 1 ∨ model = 2 ∨ model = 3) (hen : enT u c model room t = true) :
  Calls Try.prog 69 #[uv, cv, .int .i64 model, .int .i64 room, .int .i64 (t : Nat)] w fun r w' => ∃ vp vr vm vb rv bv, r = .returned (.tuple #[.agg #[vp, vr, vm, vb], .bool true]) ∧ OwnC w.heap.size w' vp vr vm vb rv bv (actC u c model t) ∧ Below w.heap.size w w' := by
 by_cases h : (insT u c t).op = 20 ∨ (insT u c t).op = 21 ∨ (insT u c t).op = 2 ∨ (insT u c t).op = 3 ∨ (insT u c t).op = 4
 ·exact act10_a uv cv u c model room t w hu hc hR hL hk ht hmod hen h
 ·exact act10_b uv cv u c model room t w hu hc hR hL hk ht hmod hen (by omega)
end Go.Proofs.Ytlhpjfnfemebdaa
