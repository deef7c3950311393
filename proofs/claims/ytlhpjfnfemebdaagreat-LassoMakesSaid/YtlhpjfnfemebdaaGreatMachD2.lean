/-
  Whether an instruction can be, kind by kind. (Written by gen_one.py.)
-/
import Derived.Test.YtlhpjfnfemebdaaGreatJRowsM
set_option maxRecDepth 100000
set_option maxHeartbeats 64000000
namespace Go.Proofs.YtlhpjfnfemebdaaGreat
open Go.RowKit
set_option linter.unusedSimpArgs false
set_option linter.unusedVariables false
theorem eQ(reg loc tgt regs locs many:Int)(e f:List Ed)(ne:Bool)(ve vf:Value)(w:World)(he:Ax w ve e)(hf:Ax w vf f)(hle:e.length≤1000000)(hlf:f.length≤1000000):
 Calls Tryz.prog 41 #[.agg #[.int .i64 5,.int .i64 reg,.int .i64 loc,ve,vf,.bool ne,.int .i64 tgt],.int .i64 regs,.int .i64 locs,.int .i64 many] w fun r w'=>r=.returned (.bool (Ct ⟨5,reg,loc,e,f,ne,tgt⟩ regs locs many))∧Below w.heap.size w w':=by
 have E0:Ct ⟨5,reg,loc,e,f,ne,tgt⟩ regs locs many=((EF reg regs)&&(EF loc locs)&&(tgt==0)&&(Cl regs e)&&(Cl regs f)&&!ne):=by
  unfold Ct;simp only[show IN 5=true from by decide,show Bq 5 114=true from by decide,show Bq 5 108=true from by decide,show Bq 5 116=false from by decide,show Bq 5 101=true from by decide,show Bq 5 102=true from by decide,show Bq 5 110=false from by decide];simp
 rw[E0];clear E0;have HP:=Aa (fun(w':World)=>(by exact Cu 5 w':Calls Tryz.prog 66 #[.int .i64 5] w' fun e w2=>e=.returned (.tuple #[.string ⟨#[114,108,101,102]⟩,.bool true])∧Below w'.heap.size w' w2));have HH:=Aa (fun(c:Int) (w':World)=>GG ⟨#[114,108,101,102]⟩ c w' (by decide));have g114:Bv ⟨#[114,108,101,102]⟩ 114=true:=by decide
 have g108:Bv ⟨#[114,108,101,102]⟩ 108=true:=by decide
 have g116:Bv ⟨#[114,108,101,102]⟩ 116=false:=by decide
 have g101:Bv ⟨#[114,108,101,102]⟩ 101=true:=by decide
 have g102:Bv ⟨#[114,108,101,102]⟩ 102=true:=by decide
 have g110:Bv ⟨#[114,108,101,102]⟩ 110=false:=by decide
 have I7:=Aa Ht;have Ie:=Aa (fun(w':World) (hb:Below w.heap.size w w')=>FF ve e regs w' (he.below hb) hle);have If:=Aa (fun(w':World) (hb:Below w.heap.size w w')=>FF vf f regs w' (hf.below hb) hlf);obtain⟨qr,hqr⟩:∃b,EF reg regs=b:=⟨_,rfl⟩;obtain⟨ql,hql⟩:∃b,EF loc locs=b:=⟨_,rfl⟩;obtain⟨qe,hqe⟩:∃b,Cl regs e=b:=⟨_,rfl⟩;obtain⟨qf,hqf⟩:∃b,Cl regs f=b:=⟨_,rfl⟩;rw[hqr,hql,hqe,hqf];obtain⟨ea,ec,rfl,-⟩:=he;obtain⟨fa,fc,rfl,-⟩:=hf;clear hle hlf;generalize e.length=el at*;generalize f.length=fl at*;have S:=Aa (Li.start w #[.int .i64 5,.int .i64 reg,.int .i64 loc,.slice ea el ec,.slice fa fl fc,.bool ne,.int .i64 tgt] 50);cases qr;rotate_left;cases ql;rotate_left;by_cases zt:tgt=0;rotate_left;have n1:(tgt !=0)=true:=by simpa using zt
 have n2:(tgt==0)=false:=by simpa using zt
 rw[n2];clear n2 zt
 rotate_right
 subst zt;cases qe;rotate_left;cases qf;rotate_left;all_goals
  go_enter Tryz.func41,Tryz.ntmps41;go_wp2_with ((first
   | (go_at_call 69;refine(Ie.out _ S.out.below).mono ?_;simp only[hqe];rintro ee ww ⟨rfl,hb⟩;have S:=Aa (S.out.more hb);clear hb;clear Ie)
   | (go_at_call 69;refine(If.out _ S.out.below).mono ?_;simp only[hqf];rintro ee ww ⟨rfl,hb⟩;have S:=Aa (S.out.more hb);clear hb)
   | (go_at_call 67;refine(HH.out _ _).mono ?_;simp only[g114,g108,g116,g101,g102,g110];rintro ee ww ⟨rfl,hb⟩;have S:=Aa (S.out.more hb);clear hb)
   | (go_at_call 68;refine(I7.out _ _ _).mono ?_;simp only[hqr,hql];rintro ee ww ⟨rfl,hb⟩;have S:=Aa (S.out.more hb);clear hb)
   | (go_at_call 66;refine(HP.out _).mono ?_;rintro ee ww ⟨rfl,hb⟩;have S:=Aa (S.out.more hb);clear hb));(try clear c0 c1 c2 c3 c4 c5 c6);obtain⟨c0,c1,c2,c3,c4,c5,c6⟩:=Gz S.out.blk)
  go_ret;exact⟨by simp,S.out.below⟩
theorem eY(reg loc tgt regs locs many:Int)(e f:List Ed)(ne:Bool)(ve vf:Value)(w:World)(he:Ax w ve e)(hf:Ax w vf f)(hle:e.length≤1000000)(hlf:f.length≤1000000):
 Calls Tryz.prog 41 #[.agg #[.int .i64 6,.int .i64 reg,.int .i64 loc,ve,vf,.bool ne,.int .i64 tgt],.int .i64 regs,.int .i64 locs,.int .i64 many] w fun r w'=>r=.returned (.bool (Ct ⟨6,reg,loc,e,f,ne,tgt⟩ regs locs many))∧Below w.heap.size w w':=by
 have E0:Ct ⟨6,reg,loc,e,f,ne,tgt⟩ regs locs many=((EF reg regs)&&(EF loc locs)&&(tgt==0)&&(Cl regs e)&&(f.length==0)&&!ne):=by
  unfold Ct;simp only[show IN 6=true from by decide,show Bq 6 114=true from by decide,show Bq 6 108=true from by decide,show Bq 6 116=false from by decide,show Bq 6 101=true from by decide,show Bq 6 102=false from by decide,show Bq 6 110=false from by decide];simp
 rw[E0];clear E0;have HP:=Aa (fun(w':World)=>(by exact Cu 6 w':Calls Tryz.prog 66 #[.int .i64 6] w' fun e w2=>e=.returned (.tuple #[.string ⟨#[114,108,101]⟩,.bool true])∧Below w'.heap.size w' w2));have HH:=Aa (fun(c:Int) (w':World)=>GG ⟨#[114,108,101]⟩ c w' (by decide));have g114:Bv ⟨#[114,108,101]⟩ 114=true:=by decide
 have g108:Bv ⟨#[114,108,101]⟩ 108=true:=by decide
 have g116:Bv ⟨#[114,108,101]⟩ 116=false:=by decide
 have g101:Bv ⟨#[114,108,101]⟩ 101=true:=by decide
 have g102:Bv ⟨#[114,108,101]⟩ 102=false:=by decide
 have g110:Bv ⟨#[114,108,101]⟩ 110=false:=by decide
 have I7:=Aa Ht;have Ie:=Aa (fun(w':World) (hb:Below w.heap.size w w')=>FF ve e regs w' (he.below hb) hle);obtain⟨qr,hqr⟩:∃b,EF reg regs=b:=⟨_,rfl⟩;obtain⟨ql,hql⟩:∃b,EF loc locs=b:=⟨_,rfl⟩;obtain⟨qe,hqe⟩:∃b,Cl regs e=b:=⟨_,rfl⟩;rw[hqr,hql,hqe];obtain⟨ea,ec,rfl,-⟩:=he;obtain⟨fa,fc,rfl,-⟩:=hf;clear hle hlf;generalize e.length=el at*;generalize f.length=fl at*;have S:=Aa (Li.start w #[.int .i64 6,.int .i64 reg,.int .i64 loc,.slice ea el ec,.slice fa fl fc,.bool ne,.int .i64 tgt] 50);cases qr;rotate_left;cases ql;rotate_left;by_cases zt:tgt=0;rotate_left;have n1:(tgt !=0)=true:=by simpa using zt
 have n2:(tgt==0)=false:=by simpa using zt
 rw[n2];clear n2 zt
 rotate_right
 subst zt;cases qe;rotate_left;by_cases zf:fl=0;rotate_left;have n1:(0:Int)<(fl:Int):=by omega
 have n2:(fl==0)=false:=by simpa using zf
 rw[n2];clear n2 zf
 rotate_right
 subst zf;all_goals
  go_enter Tryz.func41,Tryz.ntmps41;go_wp2_with ((first
   | (go_at_call 69;refine(Ie.out _ S.out.below).mono ?_;simp only[hqe];rintro ee ww ⟨rfl,hb⟩;have S:=Aa (S.out.more hb);clear hb)
   | (go_at_call 67;refine(HH.out _ _).mono ?_;simp only[g114,g108,g116,g101,g102,g110];rintro ee ww ⟨rfl,hb⟩;have S:=Aa (S.out.more hb);clear hb)
   | (go_at_call 68;refine(I7.out _ _ _).mono ?_;simp only[hqr,hql];rintro ee ww ⟨rfl,hb⟩;have S:=Aa (S.out.more hb);clear hb)
   | (go_at_call 66;refine(HP.out _).mono ?_;rintro ee ww ⟨rfl,hb⟩;have S:=Aa (S.out.more hb);clear hb));(try clear c0 c1 c2 c3 c4 c5 c6);obtain⟨c0,c1,c2,c3,c4,c5,c6⟩:=Gz S.out.blk)
  go_ret;exact⟨by simp,S.out.below⟩
end Go.Proofs.YtlhpjfnfemebdaaGreat
