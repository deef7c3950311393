/-
  Whether an instruction can be, kind by kind. (Written by gen_one.py.)
-/
import Derived.Test.YtlhpjfnfemebdaaGreatJRowsM
set_option maxRecDepth 100000
set_option maxHeartbeats 64000000
namespace Go.Proofs.YtlhpjfnfemebdaaGreat
open Go.RowKit
set_option linter.unusedSimpArgs false
set_option linter.unusedVariables false
theorem eX(reg loc tgt regs locs many:Int)(e f:List Ed)(ne:Bool)(ve vf:Value)(w:World)(he:Ax w ve e)(hf:Ax w vf f)(hle:e.length≤1000000)(hlf:f.length≤1000000):
 Calls Tryz.prog 41 #[.agg #[.int .i64 2,.int .i64 reg,.int .i64 loc,ve,vf,.bool ne,.int .i64 tgt],.int .i64 regs,.int .i64 locs,.int .i64 many] w fun r w'=>r=.returned (.bool (Ct ⟨2,reg,loc,e,f,ne,tgt⟩ regs locs many))∧Below w.heap.size w w':=by
 have E0:Ct ⟨2,reg,loc,e,f,ne,tgt⟩ regs locs many=((EF reg regs)&&(loc==0)&&(tgt==0)&&(Cl regs e)&&(f.length==0)&&!ne):=by
  unfold Ct;simp only[show IN 2=true from by decide,show Bq 2 114=true from by decide,show Bq 2 108=false from by decide,show Bq 2 116=false from by decide,show Bq 2 101=true from by decide,show Bq 2 102=false from by decide,show Bq 2 110=false from by decide];simp
 rw[E0];clear E0;have HP:=Aa (fun(w':World)=>(by exact Cu 2 w':Calls Tryz.prog 66 #[.int .i64 2] w' fun e w2=>e=.returned (.tuple #[.string ⟨#[114,101]⟩,.bool true])∧Below w'.heap.size w' w2));have HH:=Aa (fun(c:Int) (w':World)=>GG ⟨#[114,101]⟩ c w' (by decide));have g114:Bv ⟨#[114,101]⟩ 114=true:=by decide
 have g108:Bv ⟨#[114,101]⟩ 108=false:=by decide
 have g116:Bv ⟨#[114,101]⟩ 116=false:=by decide
 have g101:Bv ⟨#[114,101]⟩ 101=true:=by decide
 have g102:Bv ⟨#[114,101]⟩ 102=false:=by decide
 have g110:Bv ⟨#[114,101]⟩ 110=false:=by decide
 have I7:=Aa Ht;have Ie:=Aa (fun(w':World) (hb:Below w.heap.size w w')=>FF ve e regs w' (he.below hb) hle);obtain⟨qr,hqr⟩:∃b,EF reg regs=b:=⟨_,rfl⟩;obtain⟨qe,hqe⟩:∃b,Cl regs e=b:=⟨_,rfl⟩;rw[hqr,hqe];obtain⟨ea,ec,rfl,-⟩:=he;obtain⟨fa,fc,rfl,-⟩:=hf;clear hle hlf;generalize e.length=el at*;generalize f.length=fl at*;have S:=Aa (Li.start w #[.int .i64 2,.int .i64 reg,.int .i64 loc,.slice ea el ec,.slice fa fl fc,.bool ne,.int .i64 tgt] 50);cases qr;rotate_left;by_cases zl:loc=0;rotate_left;have n1:(loc !=0)=true:=by simpa using zl
 have n2:(loc==0)=false:=by simpa using zl
 rw[n2];clear n2 zl
 rotate_right
 subst zl;by_cases zt:tgt=0;rotate_left;have n1:(tgt !=0)=true:=by simpa using zt
 have n2:(tgt==0)=false:=by simpa using zt
 rw[n2];clear n2 zt
 rotate_right
 subst zt;cases qe;rotate_left;by_cases zf:fl=0;rotate_left;have n1:(0:Int)<(fl:Int):=by omega
 have n2:(fl==0)=false:=by simpa using zf
 rw[n2];clear n2 zf
 rotate_right
 subst zf;all_goals
  go_enter Tryz.func41,Tryz.ntmps41;go_wp2_with ((first
   | (go_at_call 69;refine(Ie.out _ S.out.below).mono ?_;simp only[hqe];rintro ee ww ⟨rfl,hb⟩;have S:=Aa (S.out.more hb);clear hb)
   | (go_at_call 67;refine(HH.out _ _).mono ?_;simp only[g114,g108,g116,g101,g102,g110];rintro ee ww ⟨rfl,hb⟩;have S:=Aa (S.out.more hb);clear hb)
   | (go_at_call 68;refine(I7.out _ _ _).mono ?_;simp only[hqr];rintro ee ww ⟨rfl,hb⟩;have S:=Aa (S.out.more hb);clear hb)
   | (go_at_call 66;refine(HP.out _).mono ?_;rintro ee ww ⟨rfl,hb⟩;have S:=Aa (S.out.more hb);clear hb));(try clear c0 c1 c2 c3 c4 c5 c6);obtain⟨c0,c1,c2,c3,c4,c5,c6⟩:=Gz S.out.blk)
  go_ret;exact⟨by simp,S.out.below⟩
theorem fE(reg loc tgt regs locs many:Int)(e f:List Ed)(ne:Bool)(ve vf:Value)(w:World)(he:Ax w ve e)(hf:Ax w vf f)(hle:e.length≤1000000)(hlf:f.length≤1000000):
 Calls Tryz.prog 41 #[.agg #[.int .i64 3,.int .i64 reg,.int .i64 loc,ve,vf,.bool ne,.int .i64 tgt],.int .i64 regs,.int .i64 locs,.int .i64 many] w fun r w'=>r=.returned (.bool (Ct ⟨3,reg,loc,e,f,ne,tgt⟩ regs locs many))∧Below w.heap.size w w':=by
 have E0:Ct ⟨3,reg,loc,e,f,ne,tgt⟩ regs locs many=((EF reg regs)&&(EF loc locs)&&(tgt==0)&&(e.length==0)&&(f.length==0)&&!ne):=by
  unfold Ct;simp only[show IN 3=true from by decide,show Bq 3 114=true from by decide,show Bq 3 108=true from by decide,show Bq 3 116=false from by decide,show Bq 3 101=false from by decide,show Bq 3 102=false from by decide,show Bq 3 110=false from by decide];simp
 rw[E0];clear E0;have HP:=Aa (fun(w':World)=>(by exact Cu 3 w':Calls Tryz.prog 66 #[.int .i64 3] w' fun e w2=>e=.returned (.tuple #[.string ⟨#[114,108]⟩,.bool true])∧Below w'.heap.size w' w2));have HH:=Aa (fun(c:Int) (w':World)=>GG ⟨#[114,108]⟩ c w' (by decide));have g114:Bv ⟨#[114,108]⟩ 114=true:=by decide
 have g108:Bv ⟨#[114,108]⟩ 108=true:=by decide
 have g116:Bv ⟨#[114,108]⟩ 116=false:=by decide
 have g101:Bv ⟨#[114,108]⟩ 101=false:=by decide
 have g102:Bv ⟨#[114,108]⟩ 102=false:=by decide
 have g110:Bv ⟨#[114,108]⟩ 110=false:=by decide
 have I7:=Aa Ht;obtain⟨qr,hqr⟩:∃b,EF reg regs=b:=⟨_,rfl⟩;obtain⟨ql,hql⟩:∃b,EF loc locs=b:=⟨_,rfl⟩;rw[hqr,hql];obtain⟨ea,ec,rfl,-⟩:=he;obtain⟨fa,fc,rfl,-⟩:=hf;clear hle hlf;generalize e.length=el at*;generalize f.length=fl at*;have S:=Aa (Li.start w #[.int .i64 3,.int .i64 reg,.int .i64 loc,.slice ea el ec,.slice fa fl fc,.bool ne,.int .i64 tgt] 50);cases qr;rotate_left;cases ql;rotate_left;by_cases zt:tgt=0;rotate_left;have n1:(tgt !=0)=true:=by simpa using zt
 have n2:(tgt==0)=false:=by simpa using zt
 rw[n2];clear n2 zt
 rotate_right
 subst zt;by_cases ze:el=0;rotate_left;have n1:(0:Int)<(el:Int):=by omega
 have n2:(el==0)=false:=by simpa using ze
 rw[n2];clear n2 ze
 rotate_right
 subst ze;by_cases zf:fl=0;rotate_left;have n1:(0:Int)<(fl:Int):=by omega
 have n2:(fl==0)=false:=by simpa using zf
 rw[n2];clear n2 zf
 rotate_right
 subst zf;all_goals
  go_enter Tryz.func41,Tryz.ntmps41;go_wp2_with ((first
   | (go_at_call 68;refine(I7.out _ _ _).mono ?_;simp only[hqr,hql];rintro ee ww ⟨rfl,hb⟩;have S:=Aa (S.out.more hb);clear hb)
   | (go_at_call 67;refine(HH.out _ _).mono ?_;simp only[g114,g108,g116,g101,g102,g110];rintro ee ww ⟨rfl,hb⟩;have S:=Aa (S.out.more hb);clear hb)
   | (go_at_call 66;refine(HP.out _).mono ?_;rintro ee ww ⟨rfl,hb⟩;have S:=Aa (S.out.more hb);clear hb));(try clear c0 c1 c2 c3 c4 c5 c6);obtain⟨c0,c1,c2,c3,c4,c5,c6⟩:=Gz S.out.blk)
  go_ret;exact⟨by simp,S.out.below⟩
theorem fC(reg loc tgt regs locs many:Int)(e f:List Ed)(ne:Bool)(ve vf:Value)(w:World)(he:Ax w ve e)(hf:Ax w vf f)(hle:e.length≤1000000)(hlf:f.length≤1000000):
 Calls Tryz.prog 41 #[.agg #[.int .i64 4,.int .i64 reg,.int .i64 loc,ve,vf,.bool ne,.int .i64 tgt],.int .i64 regs,.int .i64 locs,.int .i64 many] w fun r w'=>r=.returned (.bool (Ct ⟨4,reg,loc,e,f,ne,tgt⟩ regs locs many))∧Below w.heap.size w w':=by
 have E0:Ct ⟨4,reg,loc,e,f,ne,tgt⟩ regs locs many=((reg==0)&&(EF loc locs)&&(tgt==0)&&(Cl regs e)&&(f.length==0)&&!ne):=by
  unfold Ct;simp only[show IN 4=true from by decide,show Bq 4 114=false from by decide,show Bq 4 108=true from by decide,show Bq 4 116=false from by decide,show Bq 4 101=true from by decide,show Bq 4 102=false from by decide,show Bq 4 110=false from by decide];simp
 rw[E0];clear E0;have HP:=Aa (fun(w':World)=>(by exact Cu 4 w':Calls Tryz.prog 66 #[.int .i64 4] w' fun e w2=>e=.returned (.tuple #[.string ⟨#[108,101]⟩,.bool true])∧Below w'.heap.size w' w2));have HH:=Aa (fun(c:Int) (w':World)=>GG ⟨#[108,101]⟩ c w' (by decide));have g114:Bv ⟨#[108,101]⟩ 114=false:=by decide
 have g108:Bv ⟨#[108,101]⟩ 108=true:=by decide
 have g116:Bv ⟨#[108,101]⟩ 116=false:=by decide
 have g101:Bv ⟨#[108,101]⟩ 101=true:=by decide
 have g102:Bv ⟨#[108,101]⟩ 102=false:=by decide
 have g110:Bv ⟨#[108,101]⟩ 110=false:=by decide
 have I7:=Aa Ht;have Ie:=Aa (fun(w':World) (hb:Below w.heap.size w w')=>FF ve e regs w' (he.below hb) hle);obtain⟨ql,hql⟩:∃b,EF loc locs=b:=⟨_,rfl⟩;obtain⟨qe,hqe⟩:∃b,Cl regs e=b:=⟨_,rfl⟩;rw[hql,hqe];obtain⟨ea,ec,rfl,-⟩:=he;obtain⟨fa,fc,rfl,-⟩:=hf;clear hle hlf;generalize e.length=el at*;generalize f.length=fl at*;have S:=Aa (Li.start w #[.int .i64 4,.int .i64 reg,.int .i64 loc,.slice ea el ec,.slice fa fl fc,.bool ne,.int .i64 tgt] 50);by_cases zr:reg=0;rotate_left;have n1:(reg !=0)=true:=by simpa using zr
 have n2:(reg==0)=false:=by simpa using zr
 rw[n2];clear n2 zr
 rotate_right
 subst zr;cases ql;rotate_left;by_cases zt:tgt=0;rotate_left;have n1:(tgt !=0)=true:=by simpa using zt
 have n2:(tgt==0)=false:=by simpa using zt
 rw[n2];clear n2 zt
 rotate_right
 subst zt;cases qe;rotate_left;by_cases zf:fl=0;rotate_left;have n1:(0:Int)<(fl:Int):=by omega
 have n2:(fl==0)=false:=by simpa using zf
 rw[n2];clear n2 zf
 rotate_right
 subst zf;all_goals
  go_enter Tryz.func41,Tryz.ntmps41;go_wp2_with ((first
   | (go_at_call 69;refine(Ie.out _ S.out.below).mono ?_;simp only[hqe];rintro ee ww ⟨rfl,hb⟩;have S:=Aa (S.out.more hb);clear hb)
   | (go_at_call 67;refine(HH.out _ _).mono ?_;simp only[g114,g108,g116,g101,g102,g110];rintro ee ww ⟨rfl,hb⟩;have S:=Aa (S.out.more hb);clear hb)
   | (go_at_call 68;refine(I7.out _ _ _).mono ?_;simp only[hql];rintro ee ww ⟨rfl,hb⟩;have S:=Aa (S.out.more hb);clear hb)
   | (go_at_call 66;refine(HP.out _).mono ?_;rintro ee ww ⟨rfl,hb⟩;have S:=Aa (S.out.more hb);clear hb));(try clear c0 c1 c2 c3 c4 c5 c6);obtain⟨c0,c1,c2,c3,c4,c5,c6⟩:=Gz S.out.blk)
  go_ret;exact⟨by simp,S.out.below⟩
end Go.Proofs.YtlhpjfnfemebdaaGreat
