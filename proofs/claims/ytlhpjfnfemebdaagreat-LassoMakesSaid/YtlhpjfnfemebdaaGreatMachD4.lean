/-
  Whether an instruction can be, kind by kind. (Written by gen_one.py.)
-/
import Derived.Test.YtlhpjfnfemebdaaGreatJRowsM
set_option maxRecDepth 100000
set_option maxHeartbeats 64000000
namespace Go.Proofs.YtlhpjfnfemebdaaGreat
open Go.RowKit
set_option linter.unusedSimpArgs false
set_option linter.unusedVariables false
theorem dW(reg loc tgt regs locs many:Int)(e f:List Ed)(ne:Bool)(ve vf:Value)(w:World)(he:Ax w ve e)(hf:Ax w vf f)(hle:e.length≤1000000)(hlf:f.length≤1000000):
 Calls Tryz.prog 41 #[.agg #[.int .i64 20,.int .i64 reg,.int .i64 loc,ve,vf,.bool ne,.int .i64 tgt],.int .i64 regs,.int .i64 locs,.int .i64 many] w fun r w'=>r=.returned (.bool (Ct ⟨20,reg,loc,e,f,ne,tgt⟩ regs locs many))∧Below w.heap.size w w':=by
 have E0:Ct ⟨20,reg,loc,e,f,ne,tgt⟩ regs locs many=((reg==0)&&(loc==0)&&(EF tgt many)&&(e.length==0)&&(f.length==0)&&!ne):=by
  unfold Ct;simp only[show IN 20=true from by decide,show Bq 20 114=false from by decide,show Bq 20 108=false from by decide,show Bq 20 116=true from by decide,show Bq 20 101=false from by decide,show Bq 20 102=false from by decide,show Bq 20 110=false from by decide];simp
 rw[E0];clear E0;have HP:=Aa (fun(w':World)=>(by exact Cu 20 w':Calls Tryz.prog 66 #[.int .i64 20] w' fun e w2=>e=.returned (.tuple #[.string ⟨#[116]⟩,.bool true])∧Below w'.heap.size w' w2));have HH:=Aa (fun(c:Int) (w':World)=>GG ⟨#[116]⟩ c w' (by decide));have g114:Bv ⟨#[116]⟩ 114=false:=by decide
 have g108:Bv ⟨#[116]⟩ 108=false:=by decide
 have g116:Bv ⟨#[116]⟩ 116=true:=by decide
 have g101:Bv ⟨#[116]⟩ 101=false:=by decide
 have g102:Bv ⟨#[116]⟩ 102=false:=by decide
 have g110:Bv ⟨#[116]⟩ 110=false:=by decide
 have I7:=Aa Ht;obtain⟨qt,hqt⟩:∃b,EF tgt many=b:=⟨_,rfl⟩;rw[hqt];obtain⟨ea,ec,rfl,-⟩:=he;obtain⟨fa,fc,rfl,-⟩:=hf;clear hle hlf;generalize e.length=el at*;generalize f.length=fl at*;have S:=Aa (Li.start w #[.int .i64 20,.int .i64 reg,.int .i64 loc,.slice ea el ec,.slice fa fl fc,.bool ne,.int .i64 tgt] 50);by_cases zr:reg=0;rotate_left;have n1:(reg !=0)=true:=by simpa using zr
 have n2:(reg==0)=false:=by simpa using zr
 rw[n2];clear n2 zr
 rotate_right
 subst zr;by_cases zl:loc=0;rotate_left;have n1:(loc !=0)=true:=by simpa using zl
 have n2:(loc==0)=false:=by simpa using zl
 rw[n2];clear n2 zl
 rotate_right
 subst zl;cases qt;rotate_left;by_cases ze:el=0;rotate_left;have n1:(0:Int)<(el:Int):=by omega
 have n2:(el==0)=false:=by simpa using ze
 rw[n2];clear n2 ze
 rotate_right
 subst ze;by_cases zf:fl=0;rotate_left;have n1:(0:Int)<(fl:Int):=by omega
 have n2:(fl==0)=false:=by simpa using zf
 rw[n2];clear n2 zf
 rotate_right
 subst zf;all_goals
  go_enter Tryz.func41,Tryz.ntmps41;go_wp2_with ((first
   | (go_at_call 68;refine(I7.out _ _ _).mono ?_;simp only[hqt];rintro ee ww ⟨rfl,hb⟩;have S:=Aa (S.out.more hb);clear hb)
   | (go_at_call 67;refine(HH.out _ _).mono ?_;simp only[g114,g108,g116,g101,g102,g110];rintro ee ww ⟨rfl,hb⟩;have S:=Aa (S.out.more hb);clear hb)
   | (go_at_call 66;refine(HP.out _).mono ?_;rintro ee ww ⟨rfl,hb⟩;have S:=Aa (S.out.more hb);clear hb));(try clear c0 c1 c2 c3 c4 c5 c6);obtain⟨c0,c1,c2,c3,c4,c5,c6⟩:=Gz S.out.blk)
  go_ret;exact⟨by simp,S.out.below⟩
theorem eD(reg loc tgt regs locs many:Int)(e f:List Ed)(ne:Bool)(ve vf:Value)(w:World)(he:Ax w ve e)(hf:Ax w vf f)(hle:e.length≤1000000)(hlf:f.length≤1000000):
 Calls Tryz.prog 41 #[.agg #[.int .i64 21,.int .i64 reg,.int .i64 loc,ve,vf,.bool ne,.int .i64 tgt],.int .i64 regs,.int .i64 locs,.int .i64 many] w fun r w'=>r=.returned (.bool (Ct ⟨21,reg,loc,e,f,ne,tgt⟩ regs locs many))∧Below w.heap.size w w':=by
 have E0:Ct ⟨21,reg,loc,e,f,ne,tgt⟩ regs locs many=((reg==0)&&(loc==0)&&(EF tgt many)&&(Cl regs e)&&(f.length==0)&&!ne):=by
  unfold Ct;simp only[show IN 21=true from by decide,show Bq 21 114=false from by decide,show Bq 21 108=false from by decide,show Bq 21 116=true from by decide,show Bq 21 101=true from by decide,show Bq 21 102=false from by decide,show Bq 21 110=false from by decide];simp
 rw[E0];clear E0;have HP:=Aa (fun(w':World)=>(by exact Cu 21 w':Calls Tryz.prog 66 #[.int .i64 21] w' fun e w2=>e=.returned (.tuple #[.string ⟨#[101,116]⟩,.bool true])∧Below w'.heap.size w' w2));have HH:=Aa (fun(c:Int) (w':World)=>GG ⟨#[101,116]⟩ c w' (by decide));have g114:Bv ⟨#[101,116]⟩ 114=false:=by decide
 have g108:Bv ⟨#[101,116]⟩ 108=false:=by decide
 have g116:Bv ⟨#[101,116]⟩ 116=true:=by decide
 have g101:Bv ⟨#[101,116]⟩ 101=true:=by decide
 have g102:Bv ⟨#[101,116]⟩ 102=false:=by decide
 have g110:Bv ⟨#[101,116]⟩ 110=false:=by decide
 have I7:=Aa Ht;have Ie:=Aa (fun(w':World) (hb:Below w.heap.size w w')=>FF ve e regs w' (he.below hb) hle);obtain⟨qt,hqt⟩:∃b,EF tgt many=b:=⟨_,rfl⟩;obtain⟨qe,hqe⟩:∃b,Cl regs e=b:=⟨_,rfl⟩;rw[hqt,hqe];obtain⟨ea,ec,rfl,-⟩:=he;obtain⟨fa,fc,rfl,-⟩:=hf;clear hle hlf;generalize e.length=el at*;generalize f.length=fl at*;have S:=Aa (Li.start w #[.int .i64 21,.int .i64 reg,.int .i64 loc,.slice ea el ec,.slice fa fl fc,.bool ne,.int .i64 tgt] 50);by_cases zr:reg=0;rotate_left;have n1:(reg !=0)=true:=by simpa using zr
 have n2:(reg==0)=false:=by simpa using zr
 rw[n2];clear n2 zr
 rotate_right
 subst zr;by_cases zl:loc=0;rotate_left;have n1:(loc !=0)=true:=by simpa using zl
 have n2:(loc==0)=false:=by simpa using zl
 rw[n2];clear n2 zl
 rotate_right
 subst zl;cases qt;rotate_left;cases qe;rotate_left;by_cases zf:fl=0;rotate_left;have n1:(0:Int)<(fl:Int):=by omega
 have n2:(fl==0)=false:=by simpa using zf
 rw[n2];clear n2 zf
 rotate_right
 subst zf;all_goals
  go_enter Tryz.func41,Tryz.ntmps41;go_wp2_with ((first
   | (go_at_call 69;refine(Ie.out _ S.out.below).mono ?_;simp only[hqe];rintro ee ww ⟨rfl,hb⟩;have S:=Aa (S.out.more hb);clear hb)
   | (go_at_call 67;refine(HH.out _ _).mono ?_;simp only[g114,g108,g116,g101,g102,g110];rintro ee ww ⟨rfl,hb⟩;have S:=Aa (S.out.more hb);clear hb)
   | (go_at_call 68;refine(I7.out _ _ _).mono ?_;simp only[hqt];rintro ee ww ⟨rfl,hb⟩;have S:=Aa (S.out.more hb);clear hb)
   | (go_at_call 66;refine(HP.out _).mono ?_;rintro ee ww ⟨rfl,hb⟩;have S:=Aa (S.out.more hb);clear hb));(try clear c0 c1 c2 c3 c4 c5 c6);obtain⟨c0,c1,c2,c3,c4,c5,c6⟩:=Gz S.out.blk)
  go_ret;exact⟨by simp,S.out.below⟩
end Go.Proofs.YtlhpjfnfemebdaaGreat
