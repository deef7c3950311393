/- Whether an instruction can be: all kinds; Done. A unit, and -/
import Derived.Test.YtlhpjfnfemebdaaGreatMachD1
import Derived.Test.YtlhpjfnfemebdaaGreatMachD2
import Derived.Test.YtlhpjfnfemebdaaGreatMachD3
import Derived.Test.YtlhpjfnfemebdaaGreatMachD4
import Derived.Test.YtlhpjfnfemebdaaGreatJPartsMem
set_option maxRecDepth 100000
set_option maxHeartbeats 64000000
set_option linter.unusedSimpArgs false
namespace Go.Proofs.YtlhpjfnfemebdaaGreat
open Go.RowKit
theorem Rr{op:Int}(h2:op≠2)(h3:op≠3)(h4:op≠4)(h5:op≠5)(h6:op≠6)(h7:op≠7)(h8:op≠8)(h9:op≠9)(h20:op≠20)(h21:op≠21):IN op=false:=by
 unfold IN;exact Cj (by omega)
theorem eC(v:Value)(x:NV)(regs locs many:Int)(w:World)(h:gU w v x)(hle:x.e.length≤1000000)(hlf:x.f.length≤1000000):
 Calls Tryz.prog 41 #[v,.int .i64 regs,.int .i64 locs,.int .i64 many] w fun r w'=>r=.returned (.bool (Ct x regs locs many))∧Below w.heap.size w w':=by
 obtain⟨op,reg,loc,e,f,ne,tgt⟩:=x;obtain⟨ve,vf,rfl,he,hf⟩:=h;simp only at hle hlf he hf ⊢;by_cases h2:op=2
 ·subst h2;exact eX reg loc tgt regs locs many e f ne ve vf w he hf hle hlf
 by_cases h3:op=3
 ·subst h3;exact fE reg loc tgt regs locs many e f ne ve vf w he hf hle hlf
 by_cases h4:op=4
 ·subst h4;exact fC reg loc tgt regs locs many e f ne ve vf w he hf hle hlf
 by_cases h5:op=5
 ·subst h5;exact eQ reg loc tgt regs locs many e f ne ve vf w he hf hle hlf
 by_cases h6:op=6
 ·subst h6;exact eY reg loc tgt regs locs many e f ne ve vf w he hf hle hlf
 by_cases h7:op=7
 ·subst h7;exact fJ reg loc tgt regs locs many e f ne ve vf w he hf hle hlf
 by_cases h8:op=8
 ·subst h8;exact fI reg loc tgt regs locs many e f ne ve vf w he hf hle hlf
 by_cases h9:op=9
 ·subst h9;exact fP reg loc tgt regs locs many e f ne ve vf w he hf hle hlf
 by_cases h20:op=20
 ·subst h20;exact dW reg loc tgt regs locs many e f ne ve vf w he hf hle hlf
 by_cases h21:op=21
 ·subst h21;exact eD reg loc tgt regs locs many e f ne ve vf w he hf hle hlf
 have E0:Ct ⟨op,reg,loc,e,f,ne,tgt⟩ regs locs many=false:=by
  unfold Ct;rw[Rr h2 h3 h4 h5 h6 h7 h8 h9 h20 h21];rfl
 rw[E0];have HP:Hid (∀w':World,Calls Tryz.prog 66 #[.int .i64 op] w' fun e w2=>e=.returned (.tuple #[.string (Rb op),.bool false])∧Below w'.heap.size w' w2):=Aa (fun w'=>by
  have:=Cu op w';rwa [Rr h2 h3 h4 h5 h6 h7 h8 h9 h20 h21]at this)
 clear h2 h3 h4 h5 h6 h7 h8 h9 h20 h21 E0 hle hlf;obtain⟨ea,ec,rfl,-⟩:=he;obtain⟨fa,fc,rfl,-⟩:=hf;have S0:=Aa (Li.start w #[.int .i64 op,.int .i64 reg,.int .i64 loc,.slice ea e.length ec,.slice fa f.length fc,.bool ne,.int .i64 tgt] 50);go_enter Tryz.func41,Tryz.ntmps41;go_wp2_with (go_at_call 66;refine(HP.out _).mono ?_;rintro e1 w1 ⟨rfl,hb1⟩;have S1:=Aa (S0.out.more hb1);clear hb1)
 go_ret;exact⟨rfl,S1.out.below⟩
def Nm(x:NV):Bool:=x.op==22&&x.reg==0&&x.loc==0&&x.e.length==0&&x.f.length==0&&!x.ne&&x.tgt==0
theorem ZL(v:Value)(x:NV)(w:World)(h:gU w v x):Calls Tryz.prog 40 #[v] w fun r w'=>r=.returned (.bool (Nm x))∧Below w.heap.size w w':=by
 obtain⟨op,reg,loc,e,f,ne,tgt⟩:=x;obtain⟨ve,vf,rfl,he,hf⟩:=h;simp only at he hf ⊢;unfold Nm;simp only;obtain⟨ea,ec,rfl,-⟩:=he;obtain⟨fa,fc,rfl,-⟩:=hf;generalize e.length=el at*;generalize f.length=fl at*;by_cases zop:op=22;rotate_left
 ·have n1:(op==22)=false:=Bh zop;rw[n1];clear zop;go_enter Tryz.func40,Tryz.ntmps40;go_wp2_with fail
  go_ret;exact⟨by simp,Ae w _⟩
 subst zop;by_cases zreg:reg=0;rotate_left
 ·have n1:(reg==0)=false:=Bh zreg;rw[n1];clear zreg;go_enter Tryz.func40,Tryz.ntmps40;go_wp2_with fail
  go_ret;exact⟨by simp,Ae w _⟩
 subst zreg;by_cases zloc:loc=0;rotate_left
 ·have n1:(loc==0)=false:=Bh zloc;rw[n1];clear zloc;go_enter Tryz.func40,Tryz.ntmps40;go_wp2_with fail
  go_ret;exact⟨by simp,Ae w _⟩
 subst zloc;by_cases zel:el=0;rotate_left
 ·have n1:((el:Int)==0)=false:=Bh (by omega);have n2:(el==0)=false:=Bh zel;rw[n2];clear n2;clear zel;go_enter Tryz.func40,Tryz.ntmps40;go_wp2_with fail
  go_ret;exact⟨by simp,Ae w _⟩
 subst zel;by_cases zfl:fl=0;rotate_left
 ·have n1:((fl:Int)==0)=false:=Bh (by omega);have n2:(fl==0)=false:=Bh zfl;rw[n2];clear n2;clear zfl;go_enter Tryz.func40,Tryz.ntmps40;go_wp2_with fail
  go_ret;exact⟨by simp,Ae w _⟩
 subst zfl;cases ne;rotate_left
 ·go_enter Tryz.func40,Tryz.ntmps40;go_wp2_with fail
  go_ret;exact⟨by simp,Ae w _⟩
 by_cases ztgt:tgt=0;rotate_left
 ·have n1:(tgt==0)=false:=Bh ztgt;rw[n1];clear ztgt;go_enter Tryz.func40,Tryz.ntmps40;go_wp2_with fail
  go_ret;exact⟨by simp,Ae w _⟩
 subst ztgt;go_enter Tryz.func40,Tryz.ntmps40;go_wp2_with fail
 go_ret;exact⟨by simp,Ae w _⟩
structure DG where
 mod:Int
 init:List Int
 regs:List Int
 code:List (List NV)
def Dc:NV:=⟨0,0,0,[],[],false,0⟩
def ZH(w:World)(b o:Nat)(x:NV):Prop:=∃ea ec fa fc,w.cell? ⟨b,o,none⟩=some (.int .i64 x.op)∧w.cell? ⟨b,o+1,none⟩=some (.int .i64 x.reg)∧w.cell? ⟨b,o+2,none⟩=some (.int .i64 x.loc)∧
 w.cell? ⟨b,o+3,none⟩=some (.slice ea x.e.length ec)∧w.cell? ⟨b,o+4,none⟩=some (.slice fa x.f.length fc)∧w.cell? ⟨b,o+5,none⟩=some (.bool x.ne)∧w.cell? ⟨b,o+6,none⟩=some (.int .i64 x.tgt)∧
 Ax w (.slice ea x.e.length ec) x.e∧Ax w (.slice fa x.f.length fc) x.f
theorem ZH.below{w w':World}{b o:Nat}{x:NV}(h:ZH w b o x)(hb:Below w.heap.size w w'):ZH w' b o x:=
 let ⟨ea,ec,fa,fc,h0,h1,h2,h3,h4,h5,h6,h7,h8⟩:=h
 ⟨ea,ec,fa,fc,Af hb h0,Af hb h1,Af hb h2,Af hb h3,Af hb h4,Af hb h5,Af hb h6,h7.below hb,h8.below hb⟩
def Ps(w:World)(v:Value)(r:List NV):Prop:=∃a c,v=.slice a r.length c∧∀j,j<r.length→∃b o,a=some ⟨b,o,none⟩∧ZH w b (o+j*7) (r.getD j Dc)
theorem Ps.below{w w':World}{v:Value}{r:List NV}(h:Ps w v r)(hb:Below w.heap.size w w'):Ps w' v r:=
 let ⟨a,c,e,h1⟩:=h
 ⟨a,c,e,fun j hj=>let ⟨b,o,e,h2⟩:=h1 j hj;⟨b,o,e,h2.below hb⟩⟩
def Lj(w:World)(v:Value)(code:List (List NV)):Prop:=∃a c,v=.slice a code.length c∧∀j,j<code.length→∃b o u,a=some ⟨b,o,none⟩∧w.cell? ⟨b,o+j,none⟩=some u∧Ps w u (code.getD j [])
theorem Lj.below{w w':World}{v:Value}{r:List (List NV)}(h:Lj w v r)(hb:Below w.heap.size w w'):Lj w' v r:=
 let ⟨a,c,e,h1⟩:=h
 ⟨a,c,e,fun j hj=>let ⟨b,o,u,e,h2,h3⟩:=h1 j hj;⟨b,o,u,e,Af hb h2,h3.below hb⟩⟩
def Ma(w:World)(v:Value)(u:DG):Prop:=∃vi vr vc,v=.agg #[.int .i64 u.mod,vi,vr,vc]∧Am w vi u.init∧Am w vr u.regs∧Lj w vc u.code
theorem Ma.below{w w':World}{v:Value}{u:DG}(h:Ma w v u)(hb:Below w.heap.size w w'):Ma w' v u:=
 let ⟨vi,vr,vc,e,h1,h2,h3⟩:=h
 ⟨vi,vr,vc,e,h1.below hb,h2.below hb,h3.below hb⟩
structure Sn(u:DG):Prop where
 init:u.init.length≤20
 regs:u.regs.length≤20
 code:u.code.length≤8
 row:∀r∈u.code,r.length≤200∧∀x∈r,x.e.length≤300∧x.f.length≤300
def OX(u:DG)(t:Nat):Bool:=decide (0≤u.regs.getD t 0)&&decide (u.regs.getD t 0≤6)&&decide (1≤(u.code.getD t []).length)&&decide ((u.code.getD t []).length≤1000)&&Nm ((u.code.getD t []).getD ((u.code.getD t []).length - 1) Dc)&&
 (List.range ((u.code.getD t []).length - 1)).all (fun i=>Ct ((u.code.getD t []).getD i Dc) (u.regs.getD t 0) (u.init.length:Int) ((u.code.getD t []).length:Int))
def Bi(u:DG):Bool:=decide (2≤u.mod)&&decide (u.mod≤16)&&Em u.init u.mod&&decide (u.init.length≤6)&&decide (1≤u.regs.length)&&decide (u.regs.length≤4)&&decide (u.code.length=u.regs.length)&&(List.range u.regs.length).all (OX u)
theorem CU{u:DG}{t:Nat}:OX u t=true↔(0≤u.regs.getD t 0∧u.regs.getD t 0≤6)∧(1≤(u.code.getD t []).length∧(u.code.getD t []).length≤1000)∧Nm ((u.code.getD t []).getD ((u.code.getD t []).length - 1) Dc)=true∧
 ∀i,i<(u.code.getD t []).length - 1→Ct ((u.code.getD t []).getD i Dc) (u.regs.getD t 0) (u.init.length:Int) ((u.code.getD t []).length:Int)=true:=by
 unfold OX;simp only[Ci,EU,List.all_eq_true,Cg];constructor
 ·rintro⟨⟨⟨⟨⟨a,b⟩,c⟩,d⟩,e⟩,f⟩;exact⟨⟨a,b⟩,⟨c,d⟩,e,f⟩
 ·rintro⟨⟨a,b⟩,⟨c,d⟩,e,f⟩;exact⟨⟨⟨⟨⟨a,b⟩,c⟩,d⟩,e⟩,f⟩
theorem Bz{u:DG}:Bi u=true↔(2≤u.mod∧u.mod≤16)∧Em u.init u.mod=true∧u.init.length≤6∧(1≤u.regs.length∧u.regs.length≤4)∧u.code.length=u.regs.length∧∀t,t<u.regs.length→OX u t=true:=by
 unfold Bi;simp only[Ci,EU,List.all_eq_true,Cg];constructor
 ·rintro⟨⟨⟨⟨⟨⟨⟨a,b⟩,c⟩,d⟩,e⟩,f⟩,g⟩,h⟩;exact⟨⟨a,b⟩,c,d,⟨e,f⟩,g,h⟩
 ·rintro⟨⟨a,b⟩,c,d,⟨e,f⟩,g,h⟩;exact⟨⟨⟨⟨⟨⟨⟨a,b⟩,c⟩,d⟩,e⟩,f⟩,g⟩,h⟩
theorem Um{u:DG}(h:¬((2≤u.mod∧u.mod≤16)∧Em u.init u.mod=true∧u.init.length≤6∧(1≤u.regs.length∧u.regs.length≤4)∧u.code.length=u.regs.length∧∀t,t<u.regs.length→OX u t=true)):Bi u=false:=by
 cases hb:Bi u
 ·rfl
 ·exact absurd (Bz.1 hb) h
theorem Zh {u:DG} {t:Nat} (h:¬((0≤u.regs.getD t 0∧u.regs.getD t 0≤6)∧(1≤(u.code.getD t []).length∧(u.code.getD t []).length≤1000)∧Nm ((u.code.getD t []).getD ((u.code.getD t []).length - 1) Dc)=true∧
 ∀i,i<(u.code.getD t []).length - 1→Ct ((u.code.getD t []).getD i Dc) (u.regs.getD t 0) (u.init.length:Int) ((u.code.getD t []).length:Int)=true)):OX u t=false:=by
 cases hb:OX u t
 ·rfl
 ·exact absurd (CU.1 hb) h
theorem Jl{u:DG}{t:Nat}(ht:t<u.code.length):u.code.getD t []∈u.code:=by simp[List.getD,ht]
theorem NY{r:List NV}{i:Nat}(hi:i<r.length):r.getD i Dc∈r:=by simp[List.getD,hi]
theorem Lo(v:Value)(u:DG)(w:World)(h:Ma w v u)(hl:Sn u):Calls Tryz.prog 22 #[v] w fun r w'=>r=.returned (.bool (Bi u))∧Below w.heap.size w w':=by
 obtain⟨vi,vr,vc,rfl,hi,hr,hc⟩:=h;have hl1:=hl.init;have hl2:=hl.regs;have hl3:=hl.code;have HALL:=Aa (fun(w':World) (hb:Below w.heap.size w w')=>Qw vi u.init u.mod w' (hi.below hb) (by omega));obtain⟨ia,ic,rfl,-⟩:=hi;obtain⟨ra,rc,rfl,hrc⟩:=hr;obtain⟨ca,cc,rfl,hcc⟩:=hc;have HRC:=Aa hrc;have HCC:=Aa hcc;have S0:=Aa (Li.start w #[.int .i64 u.mod,.slice ia u.init.length ic,.slice ra u.regs.length rc,.slice ca u.code.length cc] 25);have HNOT:=Aa (Um (u:=u));have HLR:=Aa hl.row;clear hrc hcc hl;by_cases h1:u.mod<2
 ·have E:=Aa (HNOT.out (fun q=>by omega));clear HNOT HLR;go_enter Tryz.func22,Tryz.ntmps22;go_wp2_with fail
  go_ret;exact⟨by rw[E.out];rfl,S0.out.below⟩
 by_cases h2:16<u.mod
 ·have E:=Aa (HNOT.out (fun q=>by omega));clear HNOT HLR;go_enter Tryz.func22,Tryz.ntmps22;go_wp2_with fail
  go_ret;exact⟨by rw[E.out];rfl,S0.out.below⟩
 cases qa:Em u.init u.mod
 ·have E:=Aa (HNOT.out (fun q=>by rw[q.2.1]at qa;cases qa));rw[qa]at HALL;clear HNOT HLR qa;go_enter Tryz.func22,Tryz.ntmps22;go_wp2_with (go_at_call 39;refine(HALL.out _ S0.out.below).mono ?_;rintro e1 w1 ⟨rfl,hb1⟩;have S1:=Aa (S0.out.more hb1);clear hb1)
  go_ret;exact⟨by rw[E.out];rfl,S1.out.below⟩
 rw[qa]at HALL;have QA:=Aa qa;clear qa;by_cases h3:(6:Int)<(u.init.length:Int)
 ·have E:=Aa (HNOT.out (fun q=>by omega));clear HNOT HLR;go_enter Tryz.func22,Tryz.ntmps22;go_wp2_with (go_at_call 39;refine(HALL.out _ S0.out.below).mono ?_;rintro e1 w1 ⟨rfl,hb1⟩;have S1:=Aa (S0.out.more hb1);clear hb1;obtain⟨c0,c1,c2,c3⟩:=BX S1.out.blk)
  go_ret;exact⟨by rw[E.out];rfl,S1.out.below⟩
 by_cases h4:(u.regs.length:Int)<1
 ·have E:=Aa (HNOT.out (fun q=>by omega));clear HNOT HLR;go_enter Tryz.func22,Tryz.ntmps22;go_wp2_with (go_at_call 39;refine(HALL.out _ S0.out.below).mono ?_;rintro e1 w1 ⟨rfl,hb1⟩;have S1:=Aa (S0.out.more hb1);clear hb1;obtain⟨c0,c1,c2,c3⟩:=BX S1.out.blk)
  go_ret;exact⟨by rw[E.out];rfl,S1.out.below⟩
 by_cases h5:(4:Int)<(u.regs.length:Int)
 ·have E:=Aa (HNOT.out (fun q=>by omega));clear HNOT HLR;go_enter Tryz.func22,Tryz.ntmps22;go_wp2_with (go_at_call 39;refine(HALL.out _ S0.out.below).mono ?_;rintro e1 w1 ⟨rfl,hb1⟩;have S1:=Aa (S0.out.more hb1);clear hb1;obtain⟨c0,c1,c2,c3⟩:=BX S1.out.blk)
  go_ret;exact⟨by rw[E.out];rfl,S1.out.below⟩
 by_cases h6:u.code.length=u.regs.length;rotate_left
 ·have E:=Aa (HNOT.out (fun q=>h6 q.2.2.2.2.1));have n1:((u.code.length:Int)!=(u.regs.length:Int))=true:=by simp;omega
  clear HNOT HLR h6;go_enter Tryz.func22,Tryz.ntmps22;go_wp2_with (go_at_call 39;refine(HALL.out _ S0.out.below).mono ?_;rintro e1 w1 ⟨rfl,hb1⟩;have S1:=Aa (S0.out.more hb1);clear hb1;obtain⟨c0,c1,c2,c3⟩:=BX S1.out.blk)
  go_ret;exact⟨by rw[E.out];rfl,S1.out.below⟩
 have HYES:Hid ((∀t,t<u.regs.length→OX u t=true)→Bi u=true):=Aa (fun q=>Bz.2 ⟨by omega,QA.out,by omega,by omega,h6,q⟩);have HBAD:Hid (∀t,t<u.regs.length→OX u t=false→Bi u=false):=Aa (fun t ht hx=>HNOT.out (fun q=>by rw[q.2.2.2.2.2 t ht]at hx;cases hx));have n1:((u.code.length:Int)!=(u.regs.length:Int))=false:=by rw[h6];simp
 have h6i:(u.code.length:Int)=(u.regs.length:Int):=by omega
 have HRN:=Aa (fun t=>Zh (u:=u) (t:=t));have HRY:=Aa (fun t=>(CU (u:=u) (t:=t)).2);have H6:=Aa h6;have HLM:Hid (∀t,t<u.code.length→(u.code.getD t []).length≤200∧∀i,i<(u.code.getD t []).length→((u.code.getD t []).getD i Dc).e.length≤300∧((u.code.getD t []).getD i Dc).f.length≤300):=Aa (fun t ht=>⟨(HLR.out _ (Jl ht)).1,fun i hi=>(HLR.out _ (Jl ht)).2 _ (NY hi)⟩);clear HNOT h6 QA HLR;generalize Bi u=RES at*;generalize OX u=RB at*;go_enter Tryz.func22,Tryz.ntmps22;go_wp2_with (go_at_call 39;refine(HALL.out _ S0.out.below).mono ?_;rintro e1 w1 ⟨rfl,hb1⟩;have S1:=Aa (S0.out.more hb1);clear hb1;obtain⟨c0,c1,c2,c3⟩:=BX S1.out.blk)
 clear c0 c1 c2 c3 n1;go_loopg [3] u.regs.length (fun fu c wr=>∃t:Nat,t+fu=u.regs.length∧c=.int .i64 t∧Hid (∀j,j<t→RB j=true)∧Hid (Below w1.heap.size w1 wr))
 case atStart=>exact⟨0,by omega,rfl,Aa (fun j hj=>by omega),Aa (Ak _ _)⟩
 case round=>
  obtain⟨t,ht,rfl,HI,HB⟩:=hrel;have S2:=Aa (S1.out.more HB.out);obtain⟨-,c1,c2,c3⟩:=BX S2.out.blk;by_cases hlt:t<u.regs.length
  ·have z1:(t:Int)<(u.regs.length:Int):=by omega
   have z2:(t:Int)<(u.code.length:Int):=by omega
   obtain⟨b1,o1,rfl,d1⟩:=HRC.out t hlt;obtain⟨b2,o2,ru,rfl,d2,hrow⟩:=HCC.out t (by have:=H6.out;omega);obtain⟨hll,hlx⟩:=HLM.out t (by have:=H6.out;omega);have d1:=Af S2.out.below d1;have d2:=Af S2.out.below d2;have hrow:=hrow.below S2.out.below;have HN:=Aa (HRN.out t);have HY:=Aa (HRY.out t);have HBT:=Aa (HBAD.out t hlt);have HNX:Hid (RB t=true→∀j,j<t+1→RB j=true):=Aa (fun h j hj=>by
    by_cases e:j=t
    ·rw[e];exact h
    ·exact HI.out j (by omega))
   clear HRN HRY HBAD HLM;generalize u.regs.getD t 0=g at*;generalize u.code.getD t []=r at*;generalize RB t=RT at*;obtain⟨rra,rrc,rfl,hin⟩:=hrow;have HIN:=Aa hin;have HLX:=Aa hlx;clear hin hlx;by_cases g0:g<0
   ·have E:=Aa (HBT.out (HN.out (fun q=>by omega)));clear HN HY HBT HNX;go_wp2_with fail
    go_ret;exact⟨by rw[E.out];rfl,S2.out.below⟩
   by_cases g6:6<g
   ·have E:=Aa (HBT.out (HN.out (fun q=>by omega)));clear HN HY HBT HNX;go_wp2_with fail
    go_ret;exact⟨by rw[E.out];rfl,S2.out.below⟩
   by_cases r0:(r.length:Int)<1
   ·have E:=Aa (HBT.out (HN.out (fun q=>by omega)));clear HN HY HBT HNX;go_wp2_with fail
    go_ret;exact⟨by rw[E.out];rfl,S2.out.below⟩
   obtain⟨m,hm⟩:∃m,r.length=m+1:=⟨r.length - 1,by omega⟩;have r1:(m:Int)+1≤1000:=by omega
   have r2:¬((m:Int)+1<1):=by omega
   have r3:(m:Int)<(m:Int)+1:=by omega
   have hwm:IntKind.i64.wrap ((m:Int)+1 - 1)=(m:Int):=by rw[DS _ (by omega)];omega
   obtain⟨b3,o3,rfl,ea,ec,fa,fc,q0,q1,q2,q3,q4,q5,q6,q7,q8⟩:=HIN.out m (by omega);have HDN:=Aa (ZL _ (r.getD m Dc) wr ⟨_,_,rfl,q7,q8⟩);rw[hm,Nat.add_sub_cancel]at HN HY;rw[hm]at d2 HIN HLX r0;have HMM:=Aa hm;clear q7 q8 hm;cases qd:Nm (r.getD m Dc)
   ·rw[qd]at HDN;have E:=Aa (HBT.out (HN.out (fun q=>by rw[q.2.2.1]at qd;cases qd)));clear HN HY HBT HNX qd HIN HLX;generalize (r.getD m Dc)=x at*;go_wp2_with (go_at_call 40;refine HDN.out.mono ?_;rintro e2 w2 ⟨rfl,hb2⟩;have S3:=Aa (S2.out.more hb2);clear hb2)
    go_ret;exact⟨by rw[E.out];rfl,S3.out.below⟩
   rw[qd]at HDN;have HY2:Hid ((∀i,i<m→Ct (r.getD i Dc) g (u.init.length:Int) ((m+1:Nat):Int)=true)→RT=true):=Aa (fun q=>HY.out ⟨by omega,by omega,qd,q⟩);have HN2:Hid (∀i,i<m→Ct (r.getD i Dc) g (u.init.length:Int) ((m+1:Nat):Int)=false→RT=false):=Aa (fun i hi hx=>HN.out (fun q=>by rw[q.2.2.2 i hi]at hx;cases hx));clear HN HY qd;obtain⟨X,hX⟩:∃X:Nat→NV,∀i,X i=r.getD i Dc:=⟨fun i=>r.getD i Dc,fun _=>rfl⟩;simp only[← hX]at*;clear hX;obtain⟨xm,hxm⟩:∃x,X m=x:=⟨_,rfl⟩;simp only[hxm]at HDN q0 q1 q2 q3 q4 q5 q6;clear hxm;go_wp2_with (go_at_call 40;refine HDN.out.mono ?_;rintro e2 w2 ⟨rfl,hb2⟩;have S3:=Aa (S2.out.more hb2);have B2:=Aa hb2;clear hb2)
   clear q0 q1 q2 q3 q4 q5 q6 HDN c1 c2 c3;go_loopg [5] m (fun fu c wr3=>∃i:Nat,i+fu=m∧c=.int .i64 i∧Hid (∀j,j<i→Ct (X j) g (u.init.length:Int) ((m+1:Nat):Int)=true)∧Hid (Below w2.heap.size w2 wr3))
   case atStart=>exact⟨0,by omega,rfl,Aa (fun j hj=>by omega),Aa (Ak _ _)⟩
   case round=>
    obtain⟨i,hi,rfl,HJ,HB3⟩:=hrel;have S4:=Aa (S3.out.more HB3.out);by_cases hli:i<m
    ·have z3:(i:Int)+1<(m:Int)+1:=by omega
     have z4:(i:Int)<(m:Int):=by omega
     have z5:(i:Int)<(m:Int)+1:=by omega
     obtain⟨b3',o3',e3,ea,ec,fa,fc,q0,q1,q2,q3,q4,q5,q6,q7,q8⟩:=HIN.out i (by omega);cases e3;obtain⟨le,lf⟩:=HLX.out i (by omega);have B3:=Aa (B2.out.trans (HB3.out.mono B2.out.size));obtain⟨q0,q1,q2,q3,q4,q5,q6⟩:=hH B3.out q0 q1 q2 q3 q4 q5 q6;have q7:=q7.below B3.out;have q8:=q8.below B3.out;have d1:=Af B3.out d1;have HNI:=Aa (HN2.out i hli);have HJ2:Hid (Ct (X i) g (u.init.length:Int) ((m+1:Nat):Int)=true→∀j,j<i+1→Ct (X j) g (u.init.length:Int) ((m+1:Nat):Int)=true):=Aa (fun h j hj=>by
      by_cases e:j=i
      ·rw[e];exact h
      ·exact HJ.out j (by omega))
     generalize X i=x at*;have HONE:=Aa (fun(s:Bk wr)=>eC _ x g (u.init.length:Int) ((m+1:Nat):Int) s.1 ⟨_,_,rfl,q7.below s.2,q8.below s.2⟩ (by omega) (by omega));obtain⟨-,c1,c2⟩:=DY S4.out.blk;have f0:∀s:Bk wr,s.1.cell? ⟨b3,o3+i*7,none⟩=some (.int .i64 x.op):=fun s=>s.cell q0;have f1:∀s:Bk wr,s.1.cell? ⟨b3,o3+i*7+1,none⟩=some (.int .i64 x.reg):=fun s=>s.cell q1;have f2:∀s:Bk wr,s.1.cell? ⟨b3,o3+i*7+2,none⟩=some (.int .i64 x.loc):=fun s=>s.cell q2;have f3:∀s:Bk wr,s.1.cell? ⟨b3,o3+i*7+3,none⟩=some (.slice ea x.e.length ec):=fun s=>s.cell q3;have f4:∀s:Bk wr,s.1.cell? ⟨b3,o3+i*7+4,none⟩=some (.slice fa x.f.length fc):=fun s=>s.cell q4;have f5:∀s:Bk wr,s.1.cell? ⟨b3,o3+i*7+5,none⟩=some (.bool x.ne):=fun s=>s.cell q5;have f6:∀s:Bk wr,s.1.cell? ⟨b3,o3+i*7+6,none⟩=some (.int .i64 x.tgt):=fun s=>s.cell q6;have g1:∀s:Bk wr,s.1.cell? ⟨w.heap.size,1,none⟩=some (.slice ia u.init.length ic):=fun s=>s.cell c1;have g2:∀s:Bk wr,s.1.cell? ⟨w.heap.size,2,none⟩=some (.slice (some ⟨b1,o1,none⟩) u.regs.length rc):=fun s=>s.cell c2;have g3:∀s:Bk wr,s.1.cell? ⟨b1,o1+t,none⟩=some (.int .i64 g):=fun s=>s.cell d1;clear q0 q1 q2 q3 q4 q5 q6 q7 q8;cases qo:Ct x g (u.init.length:Int) ((m+1:Nat):Int)
     ·rw[qo]at HONE;have E:=Aa (HBT.out (HNI.out qo));clear HNI HJ2 qo;go_wp2_with fail
      refine AD (by kernel_rfl) (by kernel_rfl) ?_;repeat (go_big_quiet_step ((go_at_call 41;exact Calls.sub_of (HONE.out _))))
      refine wpQuiet_nil ?_;intro w5 hb5;have S5:=Aa (S4.out.more hb5);clear hb5;go_wp2_with fail
      go_ret;exact⟨by rw[E.out];rfl,S5.out.below⟩
     ·rw[qo]at HONE;have HJ3:=Aa (HJ2.out qo);clear HNI HJ2 qo;go_wp2_with fail
      refine AD (by kernel_rfl) (by kernel_rfl) ?_;repeat (go_big_quiet_step ((go_at_call 41;exact Calls.sub_of (HONE.out _))))
      refine wpQuiet_nil ?_;intro w5 hb5;have HB5:=Aa (HB3.out.trans (hb5.mono HB3.out.size));clear hb5;go_wp2_with fail
      go_roundg (m - (i+1))
      case measure=>omega
      case rel=>exact⟨i+1,by omega,by simp,HJ3,HB5⟩
    ·have him:i=m:=by omega
     subst him;have HRT:=Aa (HNX.out (HY2.out HJ.out));have HB6:=Aa (HB.out.trans ((B2.out.trans (HB3.out.mono B2.out.size)).mono HB.out.size));go_wp2_with fail
     go_roundg (u.regs.length - (t+1))
     case measure=>omega
     case rel=>exact⟨t+1,by omega,by simp,HRT,HB6⟩
  ·have htt:t=u.regs.length:=by omega
   have E:=Aa (HYES.out (fun j hj=>HI.out j (by omega)));subst htt;go_wp2_with fail
   go_ret;exact⟨by rw[E.out];rfl,S2.out.below⟩
def cR(x:NV):Bool:=decide (x.e.length≤300)&&decide (x.f.length≤300)
def Gw(r:List NV):Bool:=decide (r.length≤200)&&r.all cR
def Gy(u:DG):Bool:=decide (u.init.length≤20)&&decide (u.regs.length≤20)&&decide (u.code.length≤8)&&u.code.all Gw
theorem JP{u:DG}:Gy u=true↔u.init.length≤20∧u.regs.length≤20∧u.code.length≤8∧∀r∈u.code,Gw r=true:=by
 unfold Gy;simp only[Ci,EU,List.all_eq_true];constructor
 ·rintro⟨⟨⟨a,b⟩,c⟩,d⟩;exact⟨a,b,c,d⟩
 ·rintro⟨a,b,c,d⟩;exact⟨⟨⟨a,b⟩,c⟩,d⟩
theorem KY{r:List NV}:Gw r=true↔r.length≤200∧∀x∈r,x.e.length≤300∧x.f.length≤300:=by
 unfold Gw cR;simp only[Ci,EU,List.all_eq_true]
theorem Xq{u:DG}(h:Gy u=true):Sn u:=by
 obtain⟨a,b,c,d⟩:=JP.1 h;exact⟨a,b,c,fun r hr=>KY.1 (d r hr)⟩
theorem Ud{u:DG}(h:¬(u.init.length≤20∧u.regs.length≤20∧u.code.length≤8∧∀r∈u.code,Gw r=true)):Gy u=false:=by
 cases hb:Gy u
 ·rfl
 ·exact absurd (JP.1 hb) h
theorem WA(v:Value)(u:DG)(w:World)(h:Ma w v u):Calls Tryz.prog 4 #[v] w fun r w'=>r=.returned (.bool (Gy u))∧Below w.heap.size w w':=by
 obtain⟨vi,vr,vc,rfl,hi,hr,hc⟩:=h;obtain⟨ia,ic,rfl,-⟩:=hi;obtain⟨ra,rc,rfl,-⟩:=hr;obtain⟨ca,cc,rfl,hcc⟩:=hc;have HCC:=Aa hcc;have S0:=Aa (Li.start w #[.int .i64 u.mod,.slice ia u.init.length ic,.slice ra u.regs.length rc,.slice ca u.code.length cc] 25);have HNOT:=Aa (Ud (u:=u));clear hcc;by_cases h1:(20:Int)<(u.init.length:Int)
 ·have E:=Aa (HNOT.out (fun q=>by omega));clear HNOT;go_enter Tryz.func4,Tryz.ntmps4;go_wp2_with fail
  go_ret;exact⟨by rw[E.out];rfl,S0.out.below⟩
 by_cases h2:(20:Int)<(u.regs.length:Int)
 ·have E:=Aa (HNOT.out (fun q=>by omega));clear HNOT;go_enter Tryz.func4,Tryz.ntmps4;go_wp2_with fail
  go_ret;exact⟨by rw[E.out];rfl,S0.out.below⟩
 by_cases h3:(8:Int)<(u.code.length:Int)
 ·have E:=Aa (HNOT.out (fun q=>by omega));clear HNOT;go_enter Tryz.func4,Tryz.ntmps4;go_wp2_with fail
  go_ret;exact⟨by rw[E.out];rfl,S0.out.below⟩
 have HYES:Hid ((∀t,t<u.code.length→Gw (u.code.getD t [])=true)→Gy u=true):=Aa (fun q=>JP.2 ⟨by omega,by omega,by omega,fun r hr=>by
  obtain⟨k,hk,rfl⟩:=Ey hr;have:=q k hk;rwa [AM,Bf hk]at this⟩)
 have HBAD:Hid (∀t,t<u.code.length→Gw (u.code.getD t [])=false→Gy u=false):=Aa (fun t ht hx=>HNOT.out (fun q=>by rw[q.2.2.2 _ (Jl ht)]at hx;cases hx));clear HNOT;generalize Gy u=RES at*;go_enter Tryz.func4,Tryz.ntmps4;go_wp2_with fail
 obtain⟨w1,hw1⟩:∃w1,w1=w.alloc (.cells #[.int .i64 u.mod,.slice ia u.init.length ic,.slice ra u.regs.length rc,.slice ca u.code.length cc] 25):=⟨_,rfl⟩;rw[← hw1]at S0 ⊢;clear hw1;go_loopg [3] u.code.length (fun fu c wr=>∃t:Nat,t+fu=u.code.length∧c=.int .i64 t∧Hid (∀j,j<t→Gw (u.code.getD j [])=true)∧Hid (Below w1.heap.size w1 wr))
 case atStart=>exact⟨0,by omega,rfl,Aa (fun j hj=>by omega),Aa (Ak _ _)⟩
 case round=>
  obtain⟨t,ht,rfl,HI,HB⟩:=hrel;have S2:=Aa (S0.out.more HB.out);have c3:=Ab S2.out.blk 3 _ rfl;by_cases hlt:t<u.code.length
  ·have z1:(t:Int)<(u.code.length:Int):=by omega
   obtain⟨b2,o2,ru,rfl,d2,hrow⟩:=HCC.out t hlt;have d2:=Af S2.out.below d2;have hrow:=hrow.below S2.out.below;have HBT:=Aa (HBAD.out t hlt);have HNX:Hid (Gw (u.code.getD t [])=true→∀j,j<t+1→Gw (u.code.getD j [])=true):=Aa (fun h j hj=>by
    by_cases e:j=t
    ·rw[e];exact h
    ·exact HI.out j (by omega))
   clear HBAD;generalize u.code.getD t []=r at*;obtain⟨rra,rrc,rfl,hin⟩:=hrow;have HIN:=Aa hin;have HN:Hid (¬(r.length≤200∧∀x∈r,x.e.length≤300∧x.f.length≤300)→Gw r=false):=Aa (fun h=>by
    cases hb:Gw r
    ·rfl
    ·exact absurd (KY.1 hb) h)
   have HY:Hid (r.length≤200→(∀i,i<r.length→(r.getD i Dc).e.length≤300∧(r.getD i Dc).f.length≤300)→Gw r=true):=Aa (fun h q=>KY.2 ⟨h,fun x hx=>by
    obtain⟨k,hk,rfl⟩:=Ey hx;have:=q k hk;rwa [AM,Bf hk]at this⟩)
   have HM:Hid (∀i,i<r.length→r.getD i Dc∈r):=Aa (fun i hi=>NY hi);clear hin;generalize Gw r=RT at*;by_cases r1:(200:Int)<(r.length:Int)
   ·have E:=Aa (HBT.out (HN.out (fun q=>by omega)));clear HN HY HBT HNX;go_wp2_with fail
    go_ret;exact⟨by rw[E.out];rfl,S2.out.below⟩
   have HY2:=Aa (HY.out (by omega));clear HY;go_wp2_with fail
   clear c3;obtain⟨wq,hwq⟩:∃x,x=wr:=⟨_,rfl⟩;subst hwq;go_loopg [4] r.length (fun fu c wr3=>∃i:Nat,i+fu=r.length∧c=.int .i64 i∧Hid (∀j,j<i→(r.getD j Dc).e.length≤300∧(r.getD j Dc).f.length≤300)∧Hid (Below wq.heap.size wq wr3))
   case atStart=>exact⟨0,by omega,rfl,Aa (fun j hj=>by omega),Aa (Ak _ _)⟩
   case round=>
    obtain⟨i,hi,rfl,HJ,HB3⟩:=hrel;have S4:=Aa (S2.out.more HB3.out);have c3:=Ab S4.out.blk 3 _ rfl;have d2:=Af HB3.out d2;by_cases hli:i<r.length
    ·have z3:(i:Int)<(r.length:Int):=by omega
     obtain⟨b3,o3,rfl,ea,ec,fa,fc,-,-,-,q3,q4,-,-,-,-⟩:=HIN.out i hli;have q3:=Af HB3.out q3;have q4:=Af HB3.out q4;have HX:=Aa (HM.out i hli);have HJ2:Hid ((r.getD i Dc).e.length≤300∧(r.getD i Dc).f.length≤300→∀j,j<i+1→(r.getD j Dc).e.length≤300∧(r.getD j Dc).f.length≤300):=Aa (fun h j hj=>by
      by_cases e:j=i
      ·rw[e];exact h
      ·exact HJ.out j (by omega))
     generalize r.getD i Dc=x at*;by_cases e1:(300:Int)<(x.e.length:Int)
     ·have E:=Aa (HBT.out (HN.out (fun q=>by have:=(q.2 x HX.out).1;omega)));clear HN HY2 HBT HNX HJ2;go_wp2_with fail
      go_ret;exact⟨by rw[E.out];rfl,S4.out.below⟩
     by_cases e2:(300:Int)<(x.f.length:Int)
     ·have E:=Aa (HBT.out (HN.out (fun q=>by have:=(q.2 x HX.out).2;omega)));clear HN HY2 HBT HNX HJ2;go_wp2_with fail
      go_ret;exact⟨by rw[E.out];rfl,S4.out.below⟩
     have HJ3:=Aa (HJ2.out ⟨by omega,by omega⟩);go_wp2_with fail
     go_roundg (r.length - (i+1))
     case measure=>omega
     case rel=>exact⟨i+1,by omega,by simp,HJ3,HB3⟩
    ·have him:i=r.length:=by omega
     have HRT:=Aa (HNX.out (HY2.out (fun j hj=>HJ.out j (by omega))));subst him;have HB6:=Aa (HB.out.trans (HB3.out.mono HB.out.size));go_wp2_with fail
     go_roundg (u.code.length - (t+1))
     case measure=>omega
     case rel=>exact⟨t+1,by omega,by simp,HRT,HB6⟩
  ·have htt:t=u.code.length:=by omega
   have E:=Aa (HYES.out (fun j hj=>HI.out j (by omega)));subst htt;go_wp2_with fail
   go_ret;exact⟨by rw[E.out];rfl,S2.out.below⟩
def Xk(n:Nat)(P:Nat→Bool):Nat→Int
 | 0=>-1
 | d+1=>if P (n - (d+1))=true then((n - (d+1):Nat):Int) else Xk n P d
def DL(b:List En)(model loc:Int):Int:=if model=2 then(if b.length=0 then -1 else 0) else Xk b.length (fun j=>decide ((b.getD j (0,0)).1=loc)) b.length
def Ib(b:List En)(at_:Int):Nat→List En
 | 0=>[]
 | k+1=>if(k:Int)=at_ then Ib b at_ k else Ib b at_ k++[b.getD k (0,0)]
theorem Ku(b:List En)(at_:Int):∀k,(Ib b at_ k).length≤k
 | 0=>AQ _
 | k+1=>by
  have:=Ku b at_ k;rw[Ib];split
  ·omega
  ·rw[Bs,List.length_singleton];omega
theorem NM{b:List En}{at_:Int}{y:En}:∀k,k≤b.length→y∈Ib b at_ k→y∈b
 | 0,_,h=>by simp[Ib]at h
 | k+1,hk,h=>by
  rw[Ib]at h;split at h
  ·exact NM k (by omega) h
  ·rcases CJ.1 h with h | h
   ·exact NM k (by omega) h
   ·rw[Ds.1 h];simp[List.getD,show k<b.length by omega]
theorem YL(n:Nat)(P:Nat→Bool):∀d,d≤n→-1≤Xk n P d∧Xk n P d<n
 | 0,_=>by rw[Xk];omega
 | d+1,h=>by
  have:=YL n P d (by omega);rw[Xk];split <;> omega
theorem Mz(b:List En)(model loc:Int):-1≤DL b model loc∧DL b model loc<b.length:=by
 unfold DL;split
 ·split <;> omega
 ·exact YL _ _ _ (AQ _)
def Es(b:List En)(model loc:Int):List En×En×Bool:=(Ib b (DL b model loc) b.length,if DL b model loc<0 then(0,0) else b.getD (DL b model loc).toNat (0,0),decide (0≤DL b model loc))
theorem UP(v:Value)(b:List En)(w:World)(h:Ft w v b)(hl:b.length≤1000):
 Calls Tryz.prog 62 #[v,.int .i64 2,.int .i64 (-1)] w fun r w'=>∃rv,r=.returned (.tuple #[rv,.agg #[.int .i64 (Es b 2 (-1)).2.1.1,.int .i64 (Es b 2 (-1)).2.1.2],.bool (Es b 2 (-1)).2.2])∧Cb w.heap.size w' rv (Es b 2 (-1)).1∧Below w.heap.size w w':=by
 have HP2:Hid (DL b 2 (-1)≤0):=Aa (by unfold DL;rw[if_pos rfl];split <;> omega);obtain⟨i0,hi0,hz0,hz1,hz2⟩:=CE Tryz.info107;have hbx:=Ae w (.cells #[.int .i64 0,.int .i64 0] 107);have S0:=Aa (Li.start w #[.int .i64 0,.int .i64 0] 107);have h1:=h.below hbx;obtain⟨a,c,rfl,ha⟩:=h1;have HA:=Aa ha;have HIN:=Aa (Mz b 2 (-1));have HL:=Aa (Ku b (DL b 2 (-1)));have HS:Hid (∀k,Ib b (DL b 2 (-1)) (k+1)=if(k:Int)=DL b 2 (-1) then Ib b (DL b 2 (-1)) k else Ib b (DL b 2 (-1)) k++[b.getD k (0,0)]):=Aa (fun k=>rfl);have HZ:Hid (Ib b (DL b 2 (-1)) 0=[]):=Aa rfl;obtain⟨AV,hAV⟩:∃AV:Nat→Int,∀j,AV j=if j<b.length then(j:Int) else -1:=⟨_,fun _=>rfl⟩
 have HVS:Hid (∀j,j<b.length→((b.getD j (0,0)).1=-1→AV j=(j:Int))∧(¬(b.getD j (0,0)).1=-1→AV j=(j:Int))):=Aa (fun j hj=>by rw[hAV,if_pos hj];exact⟨fun _=>rfl,fun _=>rfl⟩);have HV0:Hid (AV b.length=-1):=Aa (by rw[hAV,if_neg (by omega)]);have HVE:Hid (AV 0=DL b 2 (-1)):=Aa (by
  rw[hAV];unfold DL;rw[if_pos rfl];by_cases h0:b.length=0
  ·rw[if_neg (by omega),if_pos h0]
  ·rw[if_pos (by omega),if_neg h0];rfl)
 clear hAV;unfold Es;clear ha h hbx;generalize DL b 2 (-1)=AT at*;generalize Ib b AT=OK at*;simp only;obtain⟨RX,hRX⟩:∃x,(if AT<0 then((0,0):En) else b.getD AT.toNat (0,0))=x:=⟨_,rfl⟩;obtain⟨RB,hRB⟩:∃x,decide (0≤AT)=x:=⟨_,rfl⟩;rw[hRX,hRB];have HR1:=Aa (fun(h:AT<0)=>hRX.symm.trans (if_pos h));have HR2:=Aa (fun(h:¬AT<0)=>hRX.symm.trans (if_neg h));have HR3:=Aa (fun(h:¬0≤AT)=>hRB.symm.trans (Cj h));have HR4:=Aa (fun(h:0≤AT)=>hRB.symm.trans (Ck h));clear hRX hRB;generalize hw1:w.alloc (.cells #[.int .i64 0,.int .i64 0] 107)=w1 at*;go_enter Tryz.func62,Tryz.ntmps62;go_wp2_with fail
 clear hw1;go_loopg [9,10] (b.length) (fun fu av c wr=>fu≤b.length∧av=.int .i64 (AV fu)∧c=.int .i64 ((fu:Int) - 1)∧Hid (Below w1.heap.size w1 wr))
 case atStart=>exact⟨AQ _,by rw[HV0.out],rfl,Aa (Ak _ _)⟩
 case round=>
  obtain⟨hf,rfl,rfl,HB⟩:=hrel;cases gk with
  | succ j=>
   have e0:((j+1:Nat):Int) - 1=(j:Int):=by omega
   rw[e0];obtain⟨b1,o1,rfl,x1,-⟩:=HA.out j (by omega);have d1:=Af HB.out x1;have z0:0≤(j:Int):=by omega
   have z1:(j:Int)<(b.length:Int):=by omega
   have hs:=HVS.out j (by omega);clear HVS HV0 HVE;generalize AV (j+1)=av1 at*;generalize (b.getD j (0,0)).1=x at*;by_cases hx:x=(-1)
   ·have n1:(x==(-1))=true:=by simp[hx]
    have E:=Aa (hs.1 hx);clear hs;go_wp2_with fail
    go_roundg j
    case measure=>omega
    case rel=>exact⟨by omega,by rw[E.out],by simp,HB⟩
   ·have n1:(x==(-1))=false:=Bh hx;have E:=Aa (hs.2 hx);clear hs;go_wp2_with fail
    go_roundg j
    case measure=>omega
    case rel=>exact⟨by omega,by rw[E.out],by simp,HB⟩
  | zero=>
   have e0:((0:Nat):Int) - 1=-1:=by omega
   have hv:=HVE.out;rw[e0,hv];clear HVS HV0 HVE hv;have hat0:=HP2.out;have y1:decide (0<AT)=false:=Cj (by omega);have hatl:=HIN.out;go_wp2_with fail
   go_loopg [11,12] b.length (fun fu ov c wr2=>∃k:Nat,k+fu=b.length∧c=.int .i64 k∧Hid (Cb w1.heap.size wr2 ov (OK k))∧Hid (Below w1.heap.size w1 wr2))
   case atStart=>exact⟨0,by omega,rfl,Aa (by rw[HZ.out];exact Cb.nil _ _),HB⟩
   case round=>
    clear HB;obtain⟨k,hk,rfl,HO,HB⟩:=hrel;obtain⟨oa,oc,rfl⟩:=Bp HO.out;have hol:=HL.out k;by_cases hlt:k<b.length
    ·obtain⟨b1,o1,rfl,x1,x2⟩:=HA.out k hlt;have d1:=Af HB.out x1;have d2:=Af HB.out x2;have z1:(k:Int)<(b.length:Int):=by omega
     have hs:=HS.out k;clear HS HZ HL;by_cases hka:(k:Int)=AT
     ·rw[if_pos hka]at hs;have E:=Aa hs;have n1:((k:Int)!=AT)=false:=by simp[hka]
      clear hka;clear hs;go_wp2_with fail
      go_roundg (b.length - (k+1))
      case measure=>omega
      case rel=>exact⟨k+1,by omega,by simp,Aa (by rw[E.out];exact HO.out),HB⟩
     ·rw[if_neg hka]at hs;have E:=Aa hs;have n1:((k:Int)!=AT)=true:=by simpa using hka
      clear hs;generalize b.getD k (0,0)=x at*;generalize OK k=o at*;go_wp2_with (at_builtin;refine wpList_append_lies (wr.alloc (.cells #[.int .i64 x.1,.int .i64 x.2] 107)) rfl (.tmp 59) (.tmp 64) 102 rfl w1.heap.size 107 i0 (.agg #[.int .i64 0,.int .i64 0]) 2 16 Tryz.underlying102 hi0 hz0 hz1 hz2 rfl (by decide) (.slice oa o.length oc) (o.length) _ rfl (World.ownsRow.alloc HO.out _) ⟨wr.heap.size,0,none⟩ 1 1 [.int .i64 x.1,.int .i64 x.2] rfl rfl (World.news_of_block (Ar _ _)) (by simp[Value.oneCell']) (by omega) (by unfold maxLen;omega) (by omega) (by have:=HB.out.size;simp;omega) (wr.heap.size+1) (by simp) ?_;intro g3 cap3 w3 hown3 hgr3 hor3 hlt3;have HO3:=Aa hown3;have HB3:=Aa (CA HB.out HO.out hgr3);clear hown3 hgr3 hor3)
      go_roundg (b.length - (k+1))
      case measure=>omega
      case rel=>exact⟨k+1,by omega,by simp,Aa (by rw[E.out];exact Cb.snoc HO3.out rfl),HB3⟩
    ·have hkk:k=b.length:=by omega
     subst hkk;have HW1:=Aa S0.out.below;have S:=Aa (S0.out.more HB.out);obtain⟨c0,c1⟩:=Wz S.out.blk;obtain⟨f0,f1⟩:=gV S.out.blk;by_cases hat:AT<0
     ·have E1:=Aa (HR1.out hat);have E2:=Aa (HR3.out (by omega));clear HR1 HR2 HR3 HR4;have hB:w.heap.size<w1.heap.size:=(BO.1 S0.out.blk).1;have HO2:=Aa (Fh (a:=⟨w.heap.size,1,none⟩) (Fh (a:=⟨w.heap.size,0,none⟩) HO.out hB (.int .i64 0)) hB (.int .i64 0));have HBF:=Aa ((Below.setCell (HW1.out.trans (HB.out.mono HW1.out.size)) (p:=⟨w.heap.size,0,none⟩) (AQ _) (.int .i64 0)).setCell (p:=⟨w.heap.size,1,none⟩) (AQ _) (.int .i64 0));have k2:=Ac (i:=1) (v:=.int .i64 0) (Ac (i:=0) (v:=.int .i64 0) S.out.blk);obtain⟨g0,g1⟩:=Wz k2;go_wp2_with fail
      refine Bd (v:=.tuple #[.slice oa (OK b.length).length oc,.agg #[.int .i64 0,.int .i64 0],.bool false]) (by simp[results,Tryz.results62,go_sem,g0,g1]) rfl ?_;exact⟨_,by rw[E1.out,E2.out],CI HO2.out (Nat.le_of_lt hB),HBF.out⟩
     ·have E1:=Aa (HR2.out (by first | exact hat | omega));have E2:=Aa (HR4.out (by omega));clear HR1 HR2 HR3 HR4;obtain⟨q,hq⟩:∃q:Nat,AT=(q:Int):=⟨AT.toNat,by omega⟩;have hqb:q<b.length:=by omega
      have zq:(q:Int)<(b.length:Int):=by omega
      obtain⟨b1,o1,rfl,x1,x2⟩:=HA.out q hqb;have d1:=Af HB.out x1;have d2:=Af HB.out x2;have hnq:¬((q:Int)<0):=by omega
      clear HS HZ HL HIN hatl;subst hq;rw[BT]at E1;generalize b.getD q (0,0)=x at*;have hB:w.heap.size<w1.heap.size:=(BO.1 S0.out.blk).1;have HO2:=Aa (Fh (a:=⟨w.heap.size,1,none⟩) (Fh (a:=⟨w.heap.size,0,none⟩) HO.out hB (.int .i64 x.1)) hB (.int .i64 x.2));have HBF:=Aa ((Below.setCell (HW1.out.trans (HB.out.mono HW1.out.size)) (p:=⟨w.heap.size,0,none⟩) (AQ _) (.int .i64 x.1)).setCell (p:=⟨w.heap.size,1,none⟩) (AQ _) (.int .i64 x.2));have k2:=Ac (i:=1) (v:=.int .i64 x.2) (Ac (i:=0) (v:=.int .i64 x.1) S.out.blk);obtain⟨g0,g1⟩:=Wz k2;go_wp2_with fail
      go_region
      go_wp2_with fail
      refine Bd (v:=.tuple #[.slice oa (OK b.length).length oc,.agg #[.int .i64 x.1,.int .i64 x.2],.bool true]) (by simp[results,Tryz.results62,go_sem,g0,g1]) rfl ?_;exact⟨_,by rw[E1.out,E2.out],CI HO2.out (Nat.le_of_lt hB),HBF.out.drew⟩
theorem UW(v:Value)(b:List En)(loc:Int)(w:World)(h:Ft w v b)(hl:b.length≤1000):
 Calls Tryz.prog 62 #[v,.int .i64 3,.int .i64 loc] w fun r w'=>∃rv,r=.returned (.tuple #[rv,.agg #[.int .i64 (Es b 3 loc).2.1.1,.int .i64 (Es b 3 loc).2.1.2],.bool (Es b 3 loc).2.2])∧Cb w.heap.size w' rv (Es b 3 loc).1∧Below w.heap.size w w':=by
 obtain⟨i0,hi0,hz0,hz1,hz2⟩:=CE Tryz.info107;have hbx:=Ae w (.cells #[.int .i64 0,.int .i64 0] 107);have S0:=Aa (Li.start w #[.int .i64 0,.int .i64 0] 107);have h1:=h.below hbx;obtain⟨a,c,rfl,ha⟩:=h1;have HA:=Aa ha;have HIN:=Aa (Mz b 3 loc);have HL:=Aa (Ku b (DL b 3 loc));have HS:Hid (∀k,Ib b (DL b 3 loc) (k+1)=if(k:Int)=DL b 3 loc then Ib b (DL b 3 loc) k else Ib b (DL b 3 loc) k++[b.getD k (0,0)]):=Aa (fun k=>rfl);have HZ:Hid (Ib b (DL b 3 loc) 0=[]):=Aa rfl;have HVS:Hid (∀j,j<b.length→((b.getD j (0,0)).1=loc→Xk b.length (fun j=>decide ((b.getD j (0,0)).1=loc)) (b.length - j)=(j:Int))∧(¬(b.getD j (0,0)).1=loc→Xk b.length (fun j=>decide ((b.getD j (0,0)).1=loc)) (b.length - j)=Xk b.length (fun j=>decide ((b.getD j (0,0)).1=loc)) (b.length - (j+1)))):=Aa (fun j hj=>by
  obtain⟨d,hd⟩:∃d,b.length - j=d+1:=⟨b.length - j - 1,by omega⟩;have e:b.length - (d+1)=j:=by omega
  have e2:b.length - (j+1)=d:=by omega
  rw[hd,e2];constructor
  ·intro hx;rw[Xk,e,if_pos (Ck hx)]
  ·intro hx;rw[Xk,e,if_neg (by simpa using hx)])
 obtain⟨AV,hAV⟩:∃AV:Nat→Int,∀j,AV j=Xk b.length (fun j=>decide ((b.getD j (0,0)).1=loc)) (b.length - j):=⟨_,fun _=>rfl⟩;simp only[← hAV]at HVS;have HV0:Hid (AV b.length=-1):=Aa (by rw[hAV,Nat.sub_self];rfl);have HVE:Hid (AV 0=DL b 3 loc):=Aa (by rw[hAV];rfl);clear hAV;unfold Es;clear ha h hbx;generalize DL b 3 loc=AT at*;generalize Ib b AT=OK at*;simp only;obtain⟨RX,hRX⟩:∃x,(if AT<0 then((0,0):En) else b.getD AT.toNat (0,0))=x:=⟨_,rfl⟩;obtain⟨RB,hRB⟩:∃x,decide (0≤AT)=x:=⟨_,rfl⟩;rw[hRX,hRB];have HR1:=Aa (fun(h:AT<0)=>hRX.symm.trans (if_pos h));have HR2:=Aa (fun(h:¬AT<0)=>hRX.symm.trans (if_neg h));have HR3:=Aa (fun(h:¬0≤AT)=>hRB.symm.trans (Cj h));have HR4:=Aa (fun(h:0≤AT)=>hRB.symm.trans (Ck h));clear hRX hRB;generalize hw1:w.alloc (.cells #[.int .i64 0,.int .i64 0] 107)=w1 at*;go_enter Tryz.func62,Tryz.ntmps62;go_wp2_with fail
 clear hw1;go_loopg [9,10] (b.length) (fun fu av c wr=>fu≤b.length∧av=.int .i64 (AV fu)∧c=.int .i64 ((fu:Int) - 1)∧Hid (Below w1.heap.size w1 wr))
 case atStart=>exact⟨AQ _,by rw[HV0.out],rfl,Aa (Ak _ _)⟩
 case round=>
  obtain⟨hf,rfl,rfl,HB⟩:=hrel;cases gk with
  | succ j=>
   have e0:((j+1:Nat):Int) - 1=(j:Int):=by omega
   rw[e0];obtain⟨b1,o1,rfl,x1,-⟩:=HA.out j (by omega);have d1:=Af HB.out x1;have z0:0≤(j:Int):=by omega
   have z1:(j:Int)<(b.length:Int):=by omega
   have hs:=HVS.out j (by omega);clear HVS HV0 HVE;generalize AV (j+1)=av1 at*;generalize (b.getD j (0,0)).1=x at*;by_cases hx:x=loc
   ·have n1:(x==loc)=true:=by simp[hx]
    have E:=Aa (hs.1 hx);clear hs;go_wp2_with fail
    go_roundg j
    case measure=>omega
    case rel=>exact⟨by omega,by rw[E.out],by simp,HB⟩
   ·have n1:(x==loc)=false:=Bh hx;have E:=Aa (hs.2 hx);clear hs;go_wp2_with fail
    go_roundg j
    case measure=>omega
    case rel=>exact⟨by omega,by rw[E.out],by simp,HB⟩
  | zero=>
   have e0:((0:Nat):Int) - 1=-1:=by omega
   have hv:=HVE.out;rw[e0,hv];clear HVS HV0 HVE hv;have hatl:=HIN.out;go_wp2_with fail
   go_loopg [11,12] b.length (fun fu ov c wr2=>∃k:Nat,k+fu=b.length∧c=.int .i64 k∧Hid (Cb w1.heap.size wr2 ov (OK k))∧Hid (Below w1.heap.size w1 wr2))
   case atStart=>exact⟨0,by omega,rfl,Aa (by rw[HZ.out];exact Cb.nil _ _),HB⟩
   case round=>
    clear HB;obtain⟨k,hk,rfl,HO,HB⟩:=hrel;obtain⟨oa,oc,rfl⟩:=Bp HO.out;have hol:=HL.out k;by_cases hlt:k<b.length
    ·obtain⟨b1,o1,rfl,x1,x2⟩:=HA.out k hlt;have d1:=Af HB.out x1;have d2:=Af HB.out x2;have z1:(k:Int)<(b.length:Int):=by omega
     have hs:=HS.out k;clear HS HZ HL;by_cases hka:(k:Int)=AT
     ·rw[if_pos hka]at hs;have E:=Aa hs;have n1:((k:Int)!=AT)=false:=by simp[hka]
      clear hka;clear hs;go_wp2_with fail
      go_roundg (b.length - (k+1))
      case measure=>omega
      case rel=>exact⟨k+1,by omega,by simp,Aa (by rw[E.out];exact HO.out),HB⟩
     ·rw[if_neg hka]at hs;have E:=Aa hs;have n1:((k:Int)!=AT)=true:=by simpa using hka
      clear hs;generalize b.getD k (0,0)=x at*;generalize OK k=o at*;go_wp2_with (at_builtin;refine wpList_append_lies (wr.alloc (.cells #[.int .i64 x.1,.int .i64 x.2] 107)) rfl (.tmp 59) (.tmp 64) 102 rfl w1.heap.size 107 i0 (.agg #[.int .i64 0,.int .i64 0]) 2 16 Tryz.underlying102 hi0 hz0 hz1 hz2 rfl (by decide) (.slice oa o.length oc) (o.length) _ rfl (World.ownsRow.alloc HO.out _) ⟨wr.heap.size,0,none⟩ 1 1 [.int .i64 x.1,.int .i64 x.2] rfl rfl (World.news_of_block (Ar _ _)) (by simp[Value.oneCell']) (by omega) (by unfold maxLen;omega) (by omega) (by have:=HB.out.size;simp;omega) (wr.heap.size+1) (by simp) ?_;intro g3 cap3 w3 hown3 hgr3 hor3 hlt3;have HO3:=Aa hown3;have HB3:=Aa (CA HB.out HO.out hgr3);clear hown3 hgr3 hor3)
      go_roundg (b.length - (k+1))
      case measure=>omega
      case rel=>exact⟨k+1,by omega,by simp,Aa (by rw[E.out];exact Cb.snoc HO3.out rfl),HB3⟩
    ·have hkk:k=b.length:=by omega
     subst hkk;have HW1:=Aa S0.out.below;have S:=Aa (S0.out.more HB.out);obtain⟨c0,c1⟩:=Wz S.out.blk;obtain⟨f0,f1⟩:=gV S.out.blk;by_cases hat:AT<0
     ·have E1:=Aa (HR1.out hat);have E2:=Aa (HR3.out (by omega));clear HR1 HR2 HR3 HR4;have hB:w.heap.size<w1.heap.size:=(BO.1 S0.out.blk).1;have HO2:=Aa (Fh (a:=⟨w.heap.size,1,none⟩) (Fh (a:=⟨w.heap.size,0,none⟩) HO.out hB (.int .i64 0)) hB (.int .i64 0));have HBF:=Aa ((Below.setCell (HW1.out.trans (HB.out.mono HW1.out.size)) (p:=⟨w.heap.size,0,none⟩) (AQ _) (.int .i64 0)).setCell (p:=⟨w.heap.size,1,none⟩) (AQ _) (.int .i64 0));have k2:=Ac (i:=1) (v:=.int .i64 0) (Ac (i:=0) (v:=.int .i64 0) S.out.blk);obtain⟨g0,g1⟩:=Wz k2;go_wp2_with fail
      refine Bd (v:=.tuple #[.slice oa (OK b.length).length oc,.agg #[.int .i64 0,.int .i64 0],.bool false]) (by simp[results,Tryz.results62,go_sem,g0,g1]) rfl ?_;exact⟨_,by rw[E1.out,E2.out],CI HO2.out (Nat.le_of_lt hB),HBF.out⟩
     ·have E1:=Aa (HR2.out (by first | exact hat | omega));have E2:=Aa (HR4.out (by omega));clear HR1 HR2 HR3 HR4;obtain⟨q,hq⟩:∃q:Nat,AT=(q:Int):=⟨AT.toNat,by omega⟩;have hqb:q<b.length:=by omega
      have zq:(q:Int)<(b.length:Int):=by omega
      obtain⟨b1,o1,rfl,x1,x2⟩:=HA.out q hqb;have d1:=Af HB.out x1;have d2:=Af HB.out x2;have hnq:¬((q:Int)<0):=by omega
      clear HS HZ HL HIN hatl;subst hq;rw[BT]at E1;generalize b.getD q (0,0)=x at*;have hB:w.heap.size<w1.heap.size:=(BO.1 S0.out.blk).1;have HO2:=Aa (Fh (a:=⟨w.heap.size,1,none⟩) (Fh (a:=⟨w.heap.size,0,none⟩) HO.out hB (.int .i64 x.1)) hB (.int .i64 x.2));have HBF:=Aa ((Below.setCell (HW1.out.trans (HB.out.mono HW1.out.size)) (p:=⟨w.heap.size,0,none⟩) (AQ _) (.int .i64 x.1)).setCell (p:=⟨w.heap.size,1,none⟩) (AQ _) (.int .i64 x.2));have k2:=Ac (i:=1) (v:=.int .i64 x.2) (Ac (i:=0) (v:=.int .i64 x.1) S.out.blk);obtain⟨g0,g1⟩:=Wz k2;go_wp2_with fail
      go_region
      go_wp2_with fail
      refine Bd (v:=.tuple #[.slice oa (OK b.length).length oc,.agg #[.int .i64 x.1,.int .i64 x.2],.bool true]) (by simp[results,Tryz.results62,go_sem,g0,g1]) rfl ?_;exact⟨_,by rw[E1.out,E2.out],CI HO2.out (Nat.le_of_lt hB),HBF.out.drew⟩
structure Cf where
 pc:List Int
 regs:List (List Int)
 mem:List Int
 buf:List (List En)
def Lc(w:World)(v:Value)(bs:List (List En)):Prop:=∃a cap,v=.slice a bs.length cap∧∀j,j<bs.length→∃b o u,a=some ⟨b,o,none⟩∧w.cell? ⟨b,o+j,none⟩=some u∧Ft w u (bs.getD j [])
theorem Lc.below{w w':World}{v:Value}{bs:List (List En)}(h:Lc w v bs)(hb:Below w.heap.size w w'):Lc w' v bs:=
 let ⟨a,c,e,h1⟩:=h
 ⟨a,c,e,fun j hj=>let ⟨b,o,u,e,h2,h3⟩:=h1 j hj;⟨b,o,u,e,Af hb h2,h3.below hb⟩⟩
def Ll(w:World)(v:Value)(c:Cf):Prop:=∃vp vr vm vb,v=.agg #[vp,vr,vm,vb]∧Am w vp c.pc∧Ih w vr c.regs∧Am w vm c.mem∧Lc w vb c.buf
theorem Ll.below{w w':World}{v:Value}{c:Cf}(h:Ll w v c)(hb:Below w.heap.size w w'):Ll w' v c:=
 let ⟨vp,vr,vm,vb,e,h1,h2,h3,h4⟩:=h
 ⟨vp,vr,vm,vb,e,h1.below hb,h2.below hb,h3.below hb,h4.below hb⟩
theorem Ll.var{w:World}{v:Value}{c:Cf}(h:Ll w v c):∃pa pc ra rc ma mc ba bc,v=.agg #[.slice pa c.pc.length pc,.slice ra c.regs.length rc,.slice ma c.mem.length mc,.slice ba c.buf.length bc]∧Am w (.slice pa c.pc.length pc) c.pc∧Ih w (.slice ra c.regs.length rc) c.regs∧Am w (.slice ma c.mem.length mc) c.mem∧Lc w (.slice ba c.buf.length bc) c.buf:=by
 obtain⟨vp,vr,vm,vb,rfl,h1,h2,h3,h4⟩:=h;obtain⟨pa,pc,e1,-⟩:=id h1;obtain⟨ra,rc,e2,-⟩:=id h2;obtain⟨ma,mc,e3,-⟩:=id h3;obtain⟨ba,bc,e4,-⟩:=id h4;subst e1 e2 e3 e4;exact⟨pa,pc,ra,rc,ma,mc,ba,bc,rfl,h1,h2,h3,h4⟩
theorem Ma.var{w:World}{v:Value}{u:DG}(h:Ma w v u):∃ia ic ra rc ca cc,v=.agg #[.int .i64 u.mod,.slice ia u.init.length ic,.slice ra u.regs.length rc,.slice ca u.code.length cc]∧Am w (.slice ia u.init.length ic) u.init∧Am w (.slice ra u.regs.length rc) u.regs∧Lj w (.slice ca u.code.length cc) u.code:=by
 obtain⟨vi,vr,vc,rfl,h1,h2,h3⟩:=h;obtain⟨ia,ic,e1,-⟩:=id h1;obtain⟨ra,rc,e2,-⟩:=id h2;obtain⟨ca,cc,e3,-⟩:=id h3;subst e1 e2 e3;exact⟨ia,ic,ra,rc,ca,cc,rfl,h1,h2,h3⟩
structure CN(u:DG)(L:Nat)(c:Cf):Prop where
 npc:c.pc.length=u.regs.length
 nregs:c.regs.length=u.regs.length
 nbuf:c.buf.length=u.regs.length
 nmem:c.mem.length=u.init.length
 pc:∀t,t<u.regs.length→0≤c.pc.getD t 0∧c.pc.getD t 0<((u.code.getD t []).length:Int)
 rlen:∀t,t<u.regs.length→((c.regs.getD t []).length:Int)=u.regs.getD t 0
 reg:∀t,t<u.regs.length→Em (c.regs.getD t []) u.mod=true
 mem:Em c.mem u.mod=true
 blen:∀t,t<u.regs.length→(c.buf.getD t []).length≤L
 ens:∀t,t<u.regs.length→∀y∈c.buf.getD t [],(0≤y.1∧y.1<(u.init.length:Int))∧0≤y.2∧y.2<u.mod
def Ee(c:Cf)(t:Nat)(loc:Nat):Int:=(NF (c.buf.getD t []) (loc:Int)).getD (c.mem.getD loc 0)
theorem Oq(v:Value)(c:Cf)(t loc:Nat)(w:World)(h:Ll w v c)(ht:t<c.buf.length)(hl:loc<c.mem.length)(hb:(c.buf.getD t []).length≤1000):
 Calls Tryz.prog 60 #[v,.int .i64 (t:Nat),.int .i64 (loc:Nat)] w fun r w'=>r=.returned (.int .i64 (Ee c t loc))∧Below w.heap.size w w':=by
 obtain⟨pa,pc,ra,rc,ma,mc,ba,bc,rfl,-,-,h3,h4⟩:=h.var;have S0:=Aa (Li.start w #[.slice pa c.pc.length pc,.slice ra c.regs.length rc,.slice ma c.mem.length mc,.slice ba c.buf.length bc] 62);obtain⟨a4,c4,e4,h4⟩:=h4;cases e4;obtain⟨b1,o1,u1,rfl,x1,hen⟩:=h4 t ht;obtain⟨a3,c3,e3,h3⟩:=h3;cases e3;obtain⟨b2,o2,rfl,x2⟩:=h3 loc hl;have HLA:=Aa (fun(w':World) (hbl:Below w.heap.size w w')=>cH u1 (c.buf.getD t []) (loc:Int) w' (hen.below hbl) (by omega));obtain⟨ea,ec,rfl,-⟩:=hen;have x1:=Af (Ae w (.cells #[.slice pa c.pc.length pc,.slice ra c.regs.length rc,.slice (some ⟨b2,o2,none⟩) c.mem.length mc,.slice (some ⟨b1,o1,none⟩) c.buf.length bc] 62)) x1;have X2:=Aa x2;have z1:(t:Int)<(c.buf.length:Int):=by omega
 have z2:(loc:Int)<(c.mem.length:Int):=by omega
 unfold Ee;clear h h3 h4 ht hl hb x2;generalize c.mem.getD loc 0=m0 at*;generalize c.buf.getD t []=bl at*;generalize hL:NF bl (loc:Int)=LA at*;clear hL;cases LA with
 | none=>
  simp only[Option.getD_none,Option.isSome_none]at HLA ⊢;go_enter Tryz.func60,Tryz.ntmps60;go_wp2_with (go_at_call 87;refine(HLA.out _ S0.out.below).mono ?_;rintro e1 w1 ⟨rfl,hb1⟩;have S1:=Aa (S0.out.more hb1);clear hb1;have c2:=Ab S1.out.blk 2 _ rfl;have x2:=Af S1.out.below X2.out)
  go_ret;exact⟨rfl,S1.out.below⟩
 | some y=>
  simp only[Option.getD_some,Option.isSome_some]at HLA ⊢;go_enter Tryz.func60,Tryz.ntmps60;go_wp2_with (go_at_call 87;refine(HLA.out _ S0.out.below).mono ?_;rintro e1 w1 ⟨rfl,hb1⟩;have S1:=Aa (S0.out.more hb1);clear hb1)
  go_ret;exact⟨rfl,S1.out.below⟩
structure OT(w wr:World)(c:Array Value)(t:TypeId)(d:Array Value)(r:TypeId):Prop where
 below:Below w.heap.size w wr
 blk1:wr.heap[w.heap.size]?=some (.cells c t (0,0))
 blk2:wr.heap[w.heap.size+1]?=some (.cells d r (0,0))
theorem OT.start(w:World)(c:Array Value)(t:TypeId)(d:Array Value)(r:TypeId):OT w ((w.alloc (.cells c t)).alloc (.cells d r)) c t d r:=by
 refine⟨(Ae w _).trans ((Ae _ _).mono (Ae w _).size),Ah (Ae _ _) (Ar w _),?_⟩;have:=Ar (w.alloc (.cells c t)) (.cells d r);simpa using this
theorem OT.more{w wr w':World}{c d:Array Value}{t r:TypeId}(h:OT w wr c t d r)(hb:Below wr.heap.size wr w'):OT w w' c t d r:=⟨h.below.trans (hb.mono h.below.size),Ah hb h.blk1,Ah hb h.blk2⟩
theorem Nt(uv cv ev:Value)(u:DG)(c:Cf)(t:Nat)(l:List Ed)(w:World)(hu:Ma w uv u)(hc:Ll w cv c)(he:Ax w ev l)(ht:t<c.regs.length)(hl:l.length≤1000000)(hm:2≤u.mod∧u.mod≤16)(hr:Em (c.regs.getD t []) u.mod=true)(hrl:(c.regs.getD t []).length≤1000000):
 Calls Tryz.prog 59 #[uv,cv,.int .i64 (t:Nat),ev] w fun r w'=>r=.returned (.int .i64 (ES u.mod (c.regs.getD t []) l))∧Below w.heap.size w w':=by
 obtain⟨ia,ic,ga,gc,ca,cc,rfl,-⟩:=hu.var;obtain⟨pa,pc,ra,rc,ma,mc,ba,bc,rfl,-,h2,-,-⟩:=hc.var;obtain⟨a2,c2,e2,h2⟩:=h2;cases e2;obtain⟨b1,o1,u1,rfl,x1,hin⟩:=h2 t ht;have S0:=Aa (OT.start w #[.int .i64 u.mod,.slice ia u.init.length ic,.slice ga u.regs.length gc,.slice ca u.code.length cc] 25 #[.slice pa c.pc.length pc,.slice (some ⟨b1,o1,none⟩) c.regs.length rc,.slice ma c.mem.length mc,.slice ba c.buf.length bc] 62);have HV0:=Aa (fun(w':World) (hb:Below w.heap.size w w')=>Zp _ _ l (c.regs.getD t []) u.mod w' (he.below hb) (hin.below hb) hl hrl hm hr);obtain⟨ea,ec,rfl,-⟩:=he;obtain⟨oa,oc,rfl,-⟩:=hin;have z1:(t:Int)<(c.regs.length:Int):=by omega
 clear hu hc h2 hr ht;generalize c.regs.getD t []=own at*;generalize ES u.mod own l=VI at*;generalize Cl (own.length:Int) l=CB at*;generalize hw2:(w.alloc (.cells #[.int .i64 u.mod,.slice ia u.init.length ic,.slice ga u.regs.length gc,.slice ca u.code.length cc] 25)).alloc (.cells #[.slice pa c.pc.length pc,.slice (some ⟨b1,o1,none⟩) c.regs.length rc,.slice ma c.mem.length mc,.slice ba c.buf.length bc] 62)=w2 at*;have x1:=Af S0.out.below x1;have g0:=Ab S0.out.blk1 0 _ rfl;have g1:=Ab S0.out.blk2 1 _ rfl;have HV:=Aa (fun(s:Bk w2)=>HV0.out s.1 (S0.out.below.trans (s.2.mono S0.out.below.size)));have f0:∀s:Bk w2,s.1.cell? ⟨w.heap.size,0,none⟩=some (.int .i64 u.mod):=fun s=>s.cell g0;have f1:∀s:Bk w2,s.1.cell? ⟨w.heap.size+1,1,none⟩=some (.slice (some ⟨b1,o1,none⟩) c.regs.length rc):=fun s=>s.cell g1;have f2:∀s:Bk w2,s.1.cell? ⟨b1,o1+t,none⟩=some (.slice oa own.length oc):=fun s=>s.cell x1;go_enter Tryz.func59,Tryz.ntmps59;go_wp2_with fail
 clear hw2;refine AD (by kernel_rfl) (by kernel_rfl) ?_;repeat (go_big_quiet_step ((go_at_call 86;exact Calls.sub_of (HV.out _))))
 refine wpQuiet_nil ?_;intro w4 hb4;have S4:=Aa (S0.out.more hb4);clear hb4;go_wp2_with fail
 go_ret;exact⟨rfl,S4.out.below⟩
def DM(c:Cf)(model:Int)(t:Nat)(loc:Int):Bool:=(Es (c.buf.getD t []) model loc).2.2
theorem MX(cv:Value)(c:Cf)(model loc:Int)(t:Nat)(w:World)(hc:Ll w cv c)(ht:t<c.buf.length)(hb:(c.buf.getD t []).length≤1000)(hml:model=2∧loc=-1∨model=3):
 Calls Tryz.prog 38 #[cv,.int .i64 model,.int .i64 (t:Nat),.int .i64 loc] w fun r w'=>r=.returned (.bool (DM c model t loc))∧Below w.heap.size w w':=by
 obtain⟨pa,pc,ra,rc,ma,mc,ba,bc,rfl,-,-,-,h4⟩:=hc.var;obtain⟨a2,c2,e2,h4⟩:=h4;cases e2;obtain⟨b1,o1,u1,rfl,x1,hin⟩:=h4 t ht;have S0:=Aa (Li.start w #[.slice pa c.pc.length pc,.slice ra c.regs.length rc,.slice ma c.mem.length mc,.slice (some ⟨b1,o1,none⟩) c.buf.length bc] 62);have HP:Hid (∀w':World,Below w.heap.size w w'→Calls Tryz.prog 62 #[u1,.int .i64 model,.int .i64 loc] w' fun r w2=>∃rv,r=.returned (.tuple #[rv,.agg #[.int .i64 (Es (c.buf.getD t []) model loc).2.1.1,.int .i64 (Es (c.buf.getD t []) model loc).2.1.2],.bool (Es (c.buf.getD t []) model loc).2.2])∧Cb w'.heap.size w2 rv (Es (c.buf.getD t []) model loc).1∧Below w'.heap.size w' w2):=Aa (fun w' hbl=>by
  rcases hml with⟨rfl,rfl⟩ | rfl
  ·exact UP u1 _ w' (hin.below hbl) hb
  ·exact UW u1 _ loc w' (hin.below hbl) hb)
 obtain⟨ea,ec,rfl,-⟩:=hin;have x1:=Af S0.out.below x1;have z1:(t:Int)<(c.buf.length:Int):=by omega
 unfold DM;clear hc h4 hb hml ht;generalize c.buf.getD t []=bl at*;generalize Es bl model loc=PE at*;obtain⟨p1,⟨p2,p3⟩,p4⟩:=PE;simp only at HP ⊢;go_enter Tryz.func38,Tryz.ntmps38;go_wp2_with (go_at_call 62;refine(HP.out _ S0.out.below).mono ?_;rintro e1 w1 ⟨rv,rfl,ho,hb1⟩;obtain⟨xa,xc,rfl⟩:=Bp ho;have S1:=Aa (S0.out.more hb1);clear hb1 ho)
 go_ret;exact⟨rfl,S1.out.below.trans ((Ae w1 _).mono S1.out.below.size)⟩
end Go.Proofs.YtlhpjfnfemebdaaGreat
