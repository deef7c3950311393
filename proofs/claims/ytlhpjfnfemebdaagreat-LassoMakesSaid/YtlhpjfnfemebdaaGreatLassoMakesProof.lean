/-
  Proved: of the space of any unit, under any model, the path to a part that is found and the circle through it are as the document says, and both can be gone in the space (LassoMakes). No conditions: every case, either mode.
-/
import Derived.Test.YtlhpjfnfemebdaaGreatMakes
import Derived.Test.YtlhpjfnfemebdaaGreatJStart
namespace Go.Proofs.YtlhpjfnfemebdaaGreat
namespace lassoMakesLaw
open Go.ChangeShapes Go.WideShapes Go.ChangeAt Go.RowKit Go.ChangeMaps
theorem own:ownKnob Tryz.prog.godebug=none:=by kernel_rfl
theorem laidOut:laidOutB Tryz.prog=true:=by kernel_rfl
set_option maxRecDepth 100000 in
theorem lifted(os:Os)(started:os.Started)(H:Type)(enc:TypeId×Value→H):
 ReturnsInHanded {} Tryz.checked os 3 .any (Rows.lassoMakesSpec.pre6 enc Tryz.prog Tryz.f3 Rows.lassoMakesRow.domain false) (Rows.lassoMakesSpec.post enc Tryz.prog Tryz.f3 false true false false):=by
 refine returnsInHanded_of_change (C:=Tryz.checked) own started (by kernel_rfl) Tryz.func3
  (ChangeSpec.witness6 (enc:=enc) (C:=Tryz.checked) false ⟨#[],#[.agg #[.int .i64 0,.slice none 0 0,.slice none 0 0,.slice none 0 0,.int .i64 0,.int .i64 0,.int .i64 0],.bool false],[]⟩ 8 (by kernel_rfl) (by kernel_rfl) (by kernel_rfl) (by kernel_rfl)) ?_
 intro W base args ds gs before hval0 hW hcnd _;have hval:∀(j:Nat) t v,Tryz.f3.params[j]?=some t→args[j]?=some v→Value.okWide Tryz.prog W .any base t v:=hval0;have hW':=hW;obtain⟨p,q,hA0,hV,rfl,hfz,hnd⟩:=hW;have hA:DataW.TrodAll enc Tryz.prog W 0 (fun _=>true) true Tryz.f3.params.toList args.toList ds p:=hA0;rw[Tryz.params3]at hA hval;obtain⟨v0,vs0,d0,ds0,p0,q0,hargs,rfl,rfl,h0,r0⟩:=trodAll_cons hA;obtain⟨v1,vs1,d1,ds1,p1,q1,rfl,rfl,rfl,h1,r1⟩:=trodAll_cons r0;obtain⟨rfl,rfl,rfl⟩:=trodAll_nil r1;obtain rfl:args=#[v0,v1]:=by cases args;simp_all
 obtain⟨rfl,rfl⟩:=trodVars_none hV;obtain⟨u0,mo0,ro0,bu0,hC0⟩:=YN (hval 0 27 v0 rfl rfl) h0;obtain⟨b1,rfl,-⟩:=open_bool Tryz.underlying4 (hval 1 4 v1 rfl rfl) h1;refine(TZ v0 b1 u0 mo0 ro0 bu0 W hC0).mono fun e W' ⟨he,hb⟩=>?_;subst he;exact⟨_,rfl,XE (T:=4) laidOut (of_decide_eq_true (by kernel_rfl)) rfl Tryz.underlying4 rfl hW' rfl hb⟩
theorem proved:Rows.LassoMakesSaid:=
 OpenClaim.holds_of_wide 3 Tryz.f3 rfl rfl rfl rfl rfl rfl rfl ⟨rfl,rfl,rfl,rfl,rfl⟩ rfl rfl rfl rfl rfl (by kernel_rfl) Tryz.func3 (by kernel_rfl)
  (of_decide_eq_true (by kernel_rfl)) (by unfold Func.isWrapper;first | (rw[if_pos (by decide+kernel)];kernel_rfl) | (rw[if_neg (by decide+kernel)];exact⟨rfl,rfl⟩))
  (fun os started H enc _=>lifted os started H enc)
#print axioms proved
end lassoMakesLaw
end Go.Proofs.YtlhpjfnfemebdaaGreat
