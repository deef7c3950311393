/- A thread goes on: step.Act. An agent acts: machine.Act. The -/
import Derived.Test.YtlhpjfnfemebdaaGreatActA1
import Derived.Test.YtlhpjfnfemebdaaGreatActA2
import Derived.Test.YtlhpjfnfemebdaaGreatJStart
import Derived.Test.YtlhpjfnfemebdaaGreatKeep2
import Derived.Test.YtlhpjfnfemebdaaGreatJPartsMem
import Derived.Test.YtlhpjfnfemebdaaGreatJBase
set_option linter.unusedSimpArgs false
namespace Go.Proofs.YtlhpjfnfemebdaaGreat
open Go.RowKit
theorem YI(uv cv:Value)(u:DG)(c:Cf)(model room:Int)(t:Nat)(w:World)(hu:Ma w uv u)(hc:Ll w cv c)(hR:Bi u=true)(hL:Sn u)(hk:CN u 1000 c)(ht:t<u.regs.length)(hmod:model=1∨model=2∨model=3)(hen:UR u c model room t=true):
 Calls Tryz.prog 34 #[uv,cv,.int .i64 model,.int .i64 room,.int .i64 (t:Nat)] w fun r w'=>∃vp vr vm vb rv bv,r=.returned (.tuple #[.agg #[vp,vr,vm,vb],.bool true])∧BB w.heap.size w' vp vr vm vb rv bv (Pb u c model t)∧Below w.heap.size w w':=by
 by_cases h:(Dt u c t).op=20∨(Dt u c t).op=21∨(Dt u c t).op=2∨(Dt u c t).op=3∨(Dt u c t).op=4
 ·exact bA uv cv u c model room t w hu hc hR hL hk ht hmod hen h
 ·exact ZN uv cv u c model room t w hu hc hR hL hk ht hmod hen (by omega)
theorem Np{w wr:World}{R base:Nat}{v0 v1 v2 v3:Value}{rv bv:List Value}{c:Cf}(low:Below w.heap.size w wr)(hR:wr.heap[R]?=some (.cells #[.slice none 0 0,.slice none 0 0,.slice none 0 0,.slice none 0 0] 62 (0,0)))(h0:w.heap.size≤R)(h1:R<base)(o:BB base wr v0 v1 v2 v3 rv bv c):
 BB w.heap.size ((((wr.setCell ⟨R,0,none⟩ v0).setCell ⟨R,1,none⟩ v1).setCell ⟨R,2,none⟩ v2).setCell ⟨R,3,none⟩ v3) v0 v1 v2 v3 rv bv c∧Below w.heap.size w ((((wr.setCell ⟨R,0,none⟩ v0).setCell ⟨R,1,none⟩ v1).setCell ⟨R,2,none⟩ v2).setCell ⟨R,3,none⟩ v3)∧((((wr.setCell ⟨R,0,none⟩ v0).setCell ⟨R,1,none⟩ v1).setCell ⟨R,2,none⟩ v2).setCell ⟨R,3,none⟩ v3).cell? ⟨R,0,none⟩=some v0∧((((wr.setCell ⟨R,0,none⟩ v0).setCell ⟨R,1,none⟩ v1).setCell ⟨R,2,none⟩ v2).setCell ⟨R,3,none⟩ v3).cell? ⟨R,1,none⟩=some v1∧((((wr.setCell ⟨R,0,none⟩ v0).setCell ⟨R,1,none⟩ v1).setCell ⟨R,2,none⟩ v2).setCell ⟨R,3,none⟩ v3).cell? ⟨R,2,none⟩=some v2∧((((wr.setCell ⟨R,0,none⟩ v0).setCell ⟨R,1,none⟩ v1).setCell ⟨R,2,none⟩ v2).setCell ⟨R,3,none⟩ v3).cell? ⟨R,3,none⟩=some v3:=by
 have OF:=((((o.setlow (i:=0) h1 v0).setlow (i:=1) h1 v1).setlow (i:=2) h1 v2).setlow (i:=3) h1 v3).low (show w.heap.size≤base by omega);have kb:=Ac (i:=3) (v:=v3) (Ac (i:=2) (v:=v2) (Ac (i:=1) (v:=v1) (Ac (i:=0) (v:=v0) hR)));have BF:=(((low.setCell (p:=⟨R,0,none⟩) h0 v0).setCell (p:=⟨R,1,none⟩) h0 v1).setCell (p:=⟨R,2,none⟩) h0 v2).setCell (p:=⟨R,3,none⟩) h0 v3;exact⟨OF,BF,Ab kb 0 v0 rfl,Ab kb 1 v1 rfl,Ab kb 2 v2 rfl,Ab kb 3 v3 rfl⟩
def Fd(base:Nat)(c:Cf)(v:Value)(w:World):Prop:=∃s0 t0 s1 t1 s2 t2 s3 t3 rv bv,v=.agg #[.slice s0 c.pc.length t0,.slice s1 c.regs.length t1,.slice s2 c.mem.length t2,.slice s3 c.buf.length t3]∧BB base w (.slice s0 c.pc.length t0) (.slice s1 c.regs.length t1) (.slice s2 c.mem.length t2) (.slice s3 c.buf.length t3) rv bv c
theorem Fd.more{base:Nat}{c:Cf}{v:Value}{w w':World}(h:Fd base c v w)(hb:Below w.heap.size w w'):Fd base c v w':=
 let ⟨s0,t0,s1,t1,s2,t2,s3,t3,rv,bv,e,h⟩:=h
 ⟨s0,t0,s1,t1,s2,t2,s3,t3,rv,bv,e,h.more hb⟩
def Qv(base:Nat)(c:Cf)(vs:List Value)(j:Nat)(v:Value)(w:World):Prop:=
 if j=16 then∃a,v=.tuple #[a,.bool true]∧Fd base c a w else if j=17 then Fd base c v w else v=vs.getD j undef
theorem Rm{base:Nat}{c:Cf}{vs:List Value}{j:Nat}{v:Value}{w w':World}(hb:Below w.heap.size w w')(h:Qv base c vs j v w):Qv base c vs j v w':=by
 unfold Qv at h ⊢;split
 ·rename_i e;rw[if_pos e]at h;obtain⟨a,e2,h⟩:=h;exact⟨a,e2,h.more hb⟩
 ·rename_i e;rw[if_neg e]at h;split
  ·rename_i e3;rw[if_pos e3]at h;exact h.more hb
  ·rename_i e3;rw[if_neg e3]at h;exact h
set_option maxRecDepth 100000 in
set_option maxHeartbeats 32000000 in
theorem ZK(uv cv:Value)(u:DG)(c:Cf)(model room:Int)(a:Nat)(w:World)(hu:Ma w uv u)(hc:Ll w cv c)(hR:Bi u=true)(hL:Sn u)(hk:CN u 1000 c)(ha:a<Fx u model)(hmod:model=1∨model=2∨model=3)(hen:QT u c model room a=true):
 Calls Tryz.prog 19 #[uv,cv,.int .i64 model,.int .i64 room,.int .i64 (a:Nat)] w fun r w'=>∃vp vr vm vb rv bv,r=.returned (.tuple #[.agg #[vp,vr,vm,vb],.bool true])∧BB w.heap.size w' vp vr vm vb rv bv (Pc u c model a)∧Below w.heap.size w w':=by
 have hag:=Ix hR model;have hxx:dQ c:=by
  obtain⟨-,-,h3,⟨h4,h5⟩,-,h6⟩:=Bz.1 hR;refine⟨by rw[hk.npc];omega,by rw[hk.nmem];omega,by rw[hk.nregs];omega,by rw[hk.nbuf];omega,fun j hj=>?_,fun j hj=>hk.blen j (by rw[← hk.nbuf];exact hj)⟩;rw[hk.nregs]at hj;have h1:=hk.rlen j hj;have h2:=(CU.1 (h6 j hj)).1;omega
 have HA:=Aa (fun(w':World) (hb:Below w.heap.size w w')=>(by have:=Ui uv cv u c model room a w' (hu.below hb) (hc.below hb) hR hL hk ha;rwa [hen]at this:Calls Tryz.prog 21 #[uv,cv,.int .i64 model,.int .i64 room,.int .i64 (a:Nat)] w' fun r w2=>r=.returned (.bool true)∧Below w'.heap.size w' w2));have HE:=Aa (fun(w':World) (hb:Below w.heap.size w w') (hlt:a<u.regs.length) (hen':UR u c model room a=true)=>YI uv cv u c model room a w' (hu.below hb) (hc.below hb) hR hL hk hlt hmod hen');have HF:=Aa (fun(w':World) (hb:Below w.heap.size w w') (mo loc:Int) (t:Nat) (ht:t<u.regs.length) (hml:mo=2∧loc=-1∨mo=3) (hf:DM c mo t loc=true)=>Yu cv c mo loc t w' (hc.below hb) hxx (by rw[hk.nbuf];exact ht) hml hf (by
  have hat:=Mz (c.buf.getD t []) mo loc;have hf':=hf;unfold DM Es at hf';have h0:0≤DL (c.buf.getD t []) mo loc:=of_decide_eq_true hf';have e:(Es (c.buf.getD t []) mo loc).2.1=(c.buf.getD t []).getD (DL (c.buf.getD t []) mo loc).toNat (0,0):=if_neg (by omega);have hm:(Es (c.buf.getD t []) mo loc).2.1∈c.buf.getD t []:=by
   rw[e];generalize hb:c.buf.getD t []=b at*;simp[List.getD,show(DL b mo loc).toNat<b.length by omega]
  have:=(hk.ens t ht _ hm).1;rw[hk.nmem];exact this))
 obtain⟨-,-,h3,⟨h4,h5⟩,-,-⟩:=Bz.1 hR;obtain⟨ia,ic,ga,gc,ca,cc,rfl,-⟩:=hu.var;obtain⟨pa,pc,ra,rc,ma,mc,ba,bc,rfl,-⟩:=hc.var;have S0:=Aa (OT.start w #[.int .i64 u.mod,.slice ia u.init.length ic,.slice ga u.regs.length gc,.slice ca u.code.length cc] 25 #[.slice pa c.pc.length pc,.slice ra c.regs.length rc,.slice ma c.mem.length mc,.slice ba c.buf.length bc] 62);have hAG:∀m,Fx u m=if m=1 then u.regs.length else if m=2 then 2*u.regs.length else if m=3 then u.regs.length+u.regs.length*u.init.length else 0:=fun m=>rfl
 have HAG:=Aa hAG;have HEA:=Aa hen;clear hu hc hk hL hR hAG hxx hmod hen;generalize hw2:(w.alloc (.cells #[.int .i64 u.mod,.slice ia u.init.length ic,.slice ga u.regs.length gc,.slice ca u.code.length cc] 25)).alloc (.cells #[.slice pa c.pc.length pc,.slice ra c.regs.length rc,.slice ma c.mem.length mc,.slice ba c.buf.length bc] 62)=w2 at*;have HR0:=Aa (Ar w2 (.cells #[.slice none 0 0,.slice none 0 0,.slice none 0 0,.slice none 0 0] 62));have S0:=Aa (S0.out.more (Ae w2 (.cells #[.slice none 0 0,.slice none 0 0,.slice none 0 0,.slice none 0 0] 62)));have HRS:Hid (w2.heap.size+1=(w2.alloc (.cells #[.slice none 0 0,.slice none 0 0,.slice none 0 0,.slice none 0 0] 62)).heap.size∧w.heap.size≤w2.heap.size):=Aa ⟨by simp,by have h1:=S0.out.below.size;simp only[Az]at h1;have h2:=(BO.1 HR0.out).1;rw[← hw2];simp only[Az];omega⟩;generalize hw2b:w2.alloc (.cells #[.slice none 0 0,.slice none 0 0,.slice none 0 0,.slice none 0 0] 62)=w2b at*;obtain⟨i0,i1,i2,i3⟩:=BX S0.out.blk1;obtain⟨l0,l1,l2,l3⟩:=BX S0.out.blk2;by_cases hlt:a<u.regs.length
 ·have hET:UR u c model room a=true:=by have:=HEA.out;unfold QT at this;rwa [if_pos hlt]at this
  have E:Hid (Pc u c model a=Pb u c model a):=Aa (if_pos hlt);have HE2:=Aa (fun(w':World) (hb:Below w.heap.size w w')=>HE.out w' hb hlt hET);generalize Pc u c model a=RES at*;generalize Pb u c model a=RS2 at*;clear HE HF HAG HEA hET;have z1:(a:Int)<(u.regs.length:Int):=by omega
  have z2:(a:Int)<(Fx u model:Int):=by omega
  generalize Fx u model=ag at*;go_enter Tryz.func19,Tryz.ntmps19;go_wp2_with (first
   | (go_at_call 34;refine(HE2.out _ S1.out.below).mono ?_;rintro e2 w4 ⟨vp,vr,vm,vb,rv,bv,rfl,hoc,hb2⟩;obtain⟨s0,t0,rfl⟩:=Bp hoc.pc;obtain⟨s1,t1,rfl⟩:=Bp hoc.regs.out;obtain⟨s2,t2,rfl⟩:=Bp hoc.mem;obtain⟨s3,t3,rfl⟩:=Bp hoc.buf.out;have S2:=Aa (S1.out.more hb2);have OC:=Aa hoc;have HR2:=Aa (Ah hb2 HR1.out);clear hb2 hoc;obtain⟨r0,r1,r2,r3⟩:=BX HR2.out;obtain⟨g0,g1,g2,g3⟩:=Nx HR2.out)
   | (go_at_call 21;refine(HA.out _ S0.out.below).mono ?_;rintro e1 w3 ⟨rfl,hb1⟩;have S1:=Aa (S0.out.more hb1);have HR1:=Aa (Ah hb1 HR0.out);have HS1:=Aa hb1.size;clear hb1 i0 i1 i2 i3 l0 l1 l2 l3;obtain⟨i0,i1,i2,i3⟩:=BX S1.out.blk1;obtain⟨l0,l1,l2,l3⟩:=BX S1.out.blk2))
  obtain⟨OF,BF,y0,y1,y2,y3⟩:=Np S2.out.below HR2.out HRS.out.2 (by have h1:=HRS.out.1;have h2:=HS1.out;omega) OC.out;refine Bd (v:=.tuple #[.agg #[.slice s0 RS2.pc.length t0,.slice s1 RS2.regs.length t1,.slice s2 RS2.mem.length t2,.slice s3 RS2.buf.length t3],.bool true]) (by simp[results,Tryz.results19,go_sem,y0,y1,y2,y3]) rfl ?_;rw[E.out];first
   | exact⟨_,_,_,_,rfl,⟨_,_,OF⟩,BF⟩
   | exact⟨_,_,_,_,_,_,rfl,OF,BF⟩
 obtain⟨k,rfl⟩:∃k,a=u.regs.length+k:=⟨a - u.regs.length,by omega⟩;have z1:¬((u.regs.length+k:Nat):Int)<(u.regs.length:Int):=by omega
 have z1':(u.regs.length:Int)≤(u.regs.length:Int)+(k:Int):=by omega
 have z2:(u.regs.length:Int)+(k:Int)<(Fx u model:Int):=by omega
 have hk0:0≤(u.regs.length:Int)+(k:Int):=by omega
 have W1:IntKind.i64.wrap ((u.regs.length:Int)+(k:Int) - (u.regs.length:Int))=(k:Int):=by rw[DS _ (by omega)];omega
 have hen:(if model=2 then DM c 2 k (-1) else DM c 3 (k / u.init.length) ((k % u.init.length:Nat):Int))=true:=by
  have:=HEA.out;unfold QT at this;rwa [if_neg hlt,Nat.add_sub_cancel_left]at this
 have hac:Pc u c model (u.regs.length+k)=if model=2 then GC c 2 k (-1) else GC c 3 (k / u.init.length) ((k % u.init.length:Nat):Int):=by
  unfold Pc;rw[if_neg hlt,Nat.add_sub_cancel_left]
 have HEN:=Aa hac;generalize Pc u c model (u.regs.length+k)=RES at*;clear hac HE hlt HEA;have n1:model≠1:=fun e=>by
  have:=HAG.out model;rw[if_pos e]at this;omega
 by_cases h2:model=2
 ·have hkn:k<u.regs.length:=by
   have:=HAG.out model;rw[if_neg n1,if_pos h2]at this;omega
  subst h2;have E:=Aa (HEN.out.trans (if_pos rfl));rw[if_pos rfl]at hen;have HF2:=Aa (fun(w':World) (hb:Below w.heap.size w w')=>HF.out w' hb 2 (-1) k hkn (.inl ⟨rfl,rfl⟩) hen);clear hen;generalize GC c 2 k (-1)=FL at*;clear HF HEN HAG n1;generalize Fx u 2=ag at*;go_enter Tryz.func19,Tryz.ntmps19;go_wp2_with (first
   | (go_at_call 35;refine(HF2.out _ S1.out.below).mono ?_;rintro e2 w4 ⟨vp,vr,vm,vb,rv,bv,rfl,hoc,hb2⟩;obtain⟨s0,t0,rfl⟩:=Bp hoc.pc;obtain⟨s1,t1,rfl⟩:=Bp hoc.regs.out;obtain⟨s2,t2,rfl⟩:=Bp hoc.mem;obtain⟨s3,t3,rfl⟩:=Bp hoc.buf.out;have S2:=Aa (S1.out.more hb2);have OC:=Aa hoc;have HR2:=Aa (Ah hb2 HR1.out);clear hb2 hoc;obtain⟨r0,r1,r2,r3⟩:=BX HR2.out;obtain⟨g0,g1,g2,g3⟩:=Nx HR2.out)
   | (go_at_call 21;refine(HA.out _ S0.out.below).mono ?_;rintro e1 w3 ⟨rfl,hb1⟩;have S1:=Aa (S0.out.more hb1);have HR1:=Aa (Ah hb1 HR0.out);have HS1:=Aa hb1.size;clear hb1 i0 i1 i2 i3 l0 l1 l2 l3;obtain⟨i0,i1,i2,i3⟩:=BX S1.out.blk1;obtain⟨l0,l1,l2,l3⟩:=BX S1.out.blk2))
  obtain⟨OF,BF,y0,y1,y2,y3⟩:=Np S2.out.below HR2.out HRS.out.2 (by have h1:=HRS.out.1;have h2:=HS1.out;omega) OC.out;refine Bd (v:=.tuple #[.agg #[.slice s0 FL.pc.length t0,.slice s1 FL.regs.length t1,.slice s2 FL.mem.length t2,.slice s3 FL.buf.length t3],.bool true]) (by simp[results,Tryz.results19,go_sem,y0,y1,y2,y3]) rfl ?_;rw[E.out];first
   | exact⟨_,_,_,_,rfl,⟨_,_,OF⟩,BF⟩
   | exact⟨_,_,_,_,_,_,rfl,OF,BF⟩
 ·have h3':model=3:=by
   have:=HAG.out model;rw[if_neg n1,if_neg h2]at this;by_cases h:model=3
   ·exact h
   ·rw[if_neg h]at this;omega
  have E:=Aa (HEN.out.trans (if_neg h2));have hkm:k<u.regs.length*u.init.length:=by
   have:=HAG.out model;rw[if_neg n1,if_neg h2,if_pos h3']at this;omega
  have hm0:0<u.init.length:=by
   rcases Nat.eq_zero_or_pos u.init.length with h | h
   ·rw[h,Nat.mul_zero]at hkm;omega
   ·exact h
  have hdn:k / u.init.length<u.regs.length:=Nat.div_lt_of_lt_mul (by rw[Nat.mul_comm];exact hkm);subst h3';rw[if_neg h2]at hen;have HF3:=Aa (fun(w':World) (hb:Below w.heap.size w w')=>HF.out w' hb 3 ((k % u.init.length:Nat):Int) (k / u.init.length) hdn (.inr rfl) hen);clear hen;have T1:(k:Int).tdiv (u.init.length:Int)=((k / u.init.length:Nat):Int):=by rw[Int.tdiv_eq_ediv_of_nonneg (by omega)];rfl
  have T2:(k:Int).tmod (u.init.length:Int)=((k % u.init.length:Nat):Int):=by rw[Int.tmod_eq_emod_of_nonneg (by omega)];rfl
  have hdk:k / u.init.length≤k:=Nat.div_le_self _ _;have nz:((u.init.length:Int)==0)=false:=Bh (by omega);have nz2:¬u.init=[]:=fun e=>by rw[e]at hm0;simp at hm0
  clear HF HEN HAG n1 h2 hkm hdn;generalize k / u.init.length=kd at*;have W2:IntKind.i64.wrap (kd:Int)=(kd:Int):=DS _ (by omega);generalize k % u.init.length=km at*;generalize GC c 3 kd (km:Int)=FL at*;generalize Fx u 3=ag at*;go_enter Tryz.func19,Tryz.ntmps19;go_wp2_with (go_at_call 21;refine(HA.out _ S0.out.below).mono ?_;rintro e1 w3 ⟨rfl,hb1⟩;have S1:=Aa (S0.out.more hb1);have HR1:=Aa (Ah hb1 HR0.out);have HS1:=Aa hb1.size;clear hb1 i0 i1 i2 i3 l0 l1 l2 l3;obtain⟨i0,i1,i2,i3⟩:=BX S1.out.blk1;obtain⟨l0,l1,l2,l3⟩:=BX S1.out.blk2)
  refine BH 19 (fun _=>undef)
   (fun f=>{tmps:=#[.agg #[.int .i64 u.mod,.slice ia u.init.length ic,.slice ga u.regs.length gc,.slice ca u.code.length cc],.agg #[.slice pa c.pc.length pc,.slice ra c.regs.length rc,.slice ma c.mem.length mc,.slice ba c.buf.length bc],.int .i64 3,.int .i64 room,.int .i64 ((u.regs.length:Int)+(k:Int)),.pointer (some ⟨w.heap.size,0,none⟩),.pointer (some ⟨w.heap.size+1,0,none⟩),undef,undef,undef,.pointer (some ⟨w2.heap.size,0,none⟩),.bool false,.int .i64 (u.regs.length:Nat),.pointer (some ⟨w.heap.size,2,none⟩),.slice ga u.regs.length gc,.int .i64 (u.regs.length:Nat),.agg #[.int .i64 u.mod,.slice ia u.init.length ic,.slice ga u.regs.length gc,.slice ca u.code.length cc],.agg #[.slice pa c.pc.length pc,.slice ra c.regs.length rc,.slice ma c.mem.length mc,.slice ba c.buf.length bc],.int .i64 3,.int .i64 room,.int .i64 ((u.regs.length:Int)+(k:Int)),.bool true,.bool false,undef,undef,.int .i64 ((u.regs.length:Int)+(k:Int)),.int .i64 (u.regs.length:Nat),.bool (decide ((u.regs.length:Int)+(k:Int)<(u.regs.length:Int))),undef,undef,undef,undef,undef,undef,undef,undef,.int .i64 3,.bool false,undef,undef,undef,undef,undef,undef,undef,undef,f 46,f 47,f 48,f 49,f 50,f 51,f 52,f 53,f 54,f 55,f 56,f 57,f 58,f 59,f 60,f 61,f 62,f 63,f 64],defers:=[]}) (fun j=>j+46)
   (Qv w3.heap.size FL [(.agg #[.slice pa c.pc.length pc,.slice ra c.regs.length rc,.slice ma c.mem.length mc,.slice ba c.buf.length bc]),(.int .i64 3),(.int .i64 ((u.regs.length:Int)+(k:Int))),(.int .i64 (u.regs.length:Nat)),(.int .i64 (k:Nat)),(.pointer (some ⟨w.heap.size,1,none⟩)),(.slice ia u.init.length ic),(.int .i64 (u.init.length:Nat)),(.int .i64 (kd:Nat)),(.int .i64 ((u.regs.length:Int)+(k:Int))),(.int .i64 (u.regs.length:Nat)),(.int .i64 (k:Nat)),(.pointer (some ⟨w.heap.size,1,none⟩)),(.slice ia u.init.length ic),(.int .i64 (u.init.length:Nat)),(.int .i64 (km:Nat)),undef,undef,(.bool true)])
   rfl (by kernel_rfl) (by kernel_rfl) (by kernel_rfl) (by decide) (by kernel_rfl) (fun i u w w' hb h=>Rm hb h) (by kernel_rfl) (by kernel_rfl) ?_ ?_ ?_
  ·intro j hj f v;rcases j with _ | _ | _ | _ | _ | _ | _ | _ | _ | _ | _ | _ | _ | _ | _ | _ | _ | _ | _ | j
   all_goals first | rfl | omega | (simp at hj;omega)
  ·refine⟨?_,?_,?_,?_,?_,?_,?_,?_,?_,?_,?_,?_,?_,?_,?_,?_,?_,?_,?_,trivial⟩
   ·intro f w' hb hd K hK;obtain⟨e0,e1,e2,e3⟩:=Zf hb l0 l1 l2 l3;dsimp only;go_simp;exact hK (.agg #[.slice pa c.pc.length pc,.slice ra c.regs.length rc,.slice ma c.mem.length mc,.slice ba c.buf.length bc]) w' (Ak _ _) rfl
   ·intro f w' hb hd K hK;dsimp only;go_simp;exact hK (.int .i64 3) w' (Ak _ _) rfl
   ·intro f w' hb hd K hK;dsimp only;go_simp;exact hK (.int .i64 ((u.regs.length:Int)+(k:Int))) w' (Ak _ _) rfl
   ·intro f w' hb hd K hK;dsimp only;go_simp;exact hK (.int .i64 (u.regs.length:Nat)) w' (Ak _ _) rfl
   ·intro f w' hb hd K hK;have h2:f 48=(.int .i64 ((u.regs.length:Int)+(k:Int))):=hd 2 (by kernel_rfl);have h3:f 49=(.int .i64 (u.regs.length:Nat)):=hd 3 (by kernel_rfl);dsimp only;go_simp;have q:=hK (.int .i64 (k:Nat)) w' (Ak _ _) rfl;simp only[h2,h3]at q;exact q
   ·intro f w' hb hd K hK;dsimp only;go_simp;exact hK (.pointer (some ⟨w.heap.size,1,none⟩)) w' (Ak _ _) rfl
   ·intro f w' hb hd K hK;have h5:f 51=(.pointer (some ⟨w.heap.size,1,none⟩)):=hd 5 (by kernel_rfl);have e0:=Af hb i1;dsimp only;go_simp;have q:=hK (.slice ia u.init.length ic) w' (Ak _ _) rfl;simp only[h5]at q;exact q
   ·intro f w' hb hd K hK;have h6:f 52=(.slice ia u.init.length ic):=hd 6 (by kernel_rfl);dsimp only;go_simp;have q:=hK (.int .i64 (u.init.length:Nat)) w' (Ak _ _) rfl;simp only[h6]at q;exact q
   ·intro f w' hb hd K hK;have h4:f 50=(.int .i64 (k:Nat)):=hd 4 (by kernel_rfl);have h7:f 53=(.int .i64 (u.init.length:Nat)):=hd 7 (by kernel_rfl);dsimp only;go_simp;have q:=hK (.int .i64 (kd:Nat)) w' (Ak _ _) rfl;simp only[h4,h7]at q;exact q
   ·intro f w' hb hd K hK;dsimp only;go_simp;exact hK (.int .i64 ((u.regs.length:Int)+(k:Int))) w' (Ak _ _) rfl
   ·intro f w' hb hd K hK;dsimp only;go_simp;exact hK (.int .i64 (u.regs.length:Nat)) w' (Ak _ _) rfl
   ·intro f w' hb hd K hK;have h9:f 55=(.int .i64 ((u.regs.length:Int)+(k:Int))):=hd 9 (by kernel_rfl);have h10:f 56=(.int .i64 (u.regs.length:Nat)):=hd 10 (by kernel_rfl);dsimp only;go_simp;have q:=hK (.int .i64 (k:Nat)) w' (Ak _ _) rfl;simp only[h9,h10]at q;exact q
   ·intro f w' hb hd K hK;dsimp only;go_simp;exact hK (.pointer (some ⟨w.heap.size,1,none⟩)) w' (Ak _ _) rfl
   ·intro f w' hb hd K hK;have h12:f 58=(.pointer (some ⟨w.heap.size,1,none⟩)):=hd 12 (by kernel_rfl);have e0:=Af hb i1;dsimp only;go_simp;have q:=hK (.slice ia u.init.length ic) w' (Ak _ _) rfl;simp only[h12]at q;exact q
   ·intro f w' hb hd K hK;have h13:f 59=(.slice ia u.init.length ic):=hd 13 (by kernel_rfl);dsimp only;go_simp;have q:=hK (.int .i64 (u.init.length:Nat)) w' (Ak _ _) rfl;simp only[h13]at q;exact q
   ·intro f w' hb hd K hK;have h11:f 57=(.int .i64 (k:Nat)):=hd 11 (by kernel_rfl);have h14:f 60=(.int .i64 (u.init.length:Nat)):=hd 14 (by kernel_rfl);dsimp only;go_simp;have q:=hK (.int .i64 (km:Nat)) w' (Ak _ _) rfl;simp only[h11,h14]at q;exact q
   ·intro f w' hb hd K hK;have h0:f 46=(.agg #[.slice pa c.pc.length pc,.slice ra c.regs.length rc,.slice ma c.mem.length mc,.slice ba c.buf.length bc]):=hd 0 (by kernel_rfl);have h1:f 47=(.int .i64 3):=hd 1 (by kernel_rfl);have h8:f 54=(.int .i64 (kd:Nat)):=hd 8 (by kernel_rfl);have h15:f 61=(.int .i64 (km:Nat)):=hd 15 (by kernel_rfl);have HO2:=Aa (HF3.out w' (S1.out.below.trans (((Ak _ w3).drew.trans hb).mono S1.out.below.size)));have hsz:w3.heap.size≤w'.heap.size:=hb.size;dsimp only;go_simp;go_wp2_with (go_at_call 35;refine HO2.out.mono ?_;rintro e w2 ⟨vp,vr,vm,vb,rv,bv,rfl,hoc,hb2⟩;obtain⟨s0,t0,rfl⟩:=Bp hoc.pc;obtain⟨s1,t1,rfl⟩:=Bp hoc.regs.out;obtain⟨s2,t2,rfl⟩:=Bp hoc.mem;obtain⟨s3,t3,rfl⟩:=Bp hoc.buf.out)
    have q:=hK _ w2 hb2 ⟨_,rfl,s0,t0,s1,t1,s2,t2,s3,t3,rv,bv,rfl,hoc.low hsz⟩;simp only[h0,h1,h8,h15]at q;exact q
   ·intro f w' hb hd K hK;obtain⟨a,h16,ha⟩:∃a,f 62=.tuple #[a,.bool true]∧Fd w3.heap.size FL a w':=hd 16 (by kernel_rfl);dsimp only;go_simp;have q:=hK a w' (Ak _ _) ha;simp only[h16]at q;exact q
   ·intro f w' hb hd K hK;obtain⟨a,h16,ha⟩:∃a,f 62=.tuple #[a,.bool true]∧Fd w3.heap.size FL a w':=hd 16 (by kernel_rfl);dsimp only;go_simp;have q:=hK (.bool true) w' (Ak _ _) rfl;simp only[h16]at q;exact q
  intro f w4 hb4 hr;obtain⟨s0,t0,s1,t1,s2,t2,s3,t3,rv,bv,h63,hoc⟩:Fd w3.heap.size FL (f 63) w4:=hr 17 (by decide);have h64:f 64=.bool true:=hr 18 (by decide);clear hr;simp only[h63,h64,List.drop_succ_cons,List.drop_zero];generalize f 46=x46;generalize f 47=x47;generalize f 48=x48;generalize f 49=x49;generalize f 50=x50;generalize f 51=x51;generalize f 52=x52;generalize f 53=x53;generalize f 54=x54;generalize f 55=x55;generalize f 56=x56;generalize f 57=x57;generalize f 58=x58;generalize f 59=x59;generalize f 60=x60;generalize f 61=x61;generalize f 62=x62;have S2:=Aa (S1.out.more hb4);have OC:=Aa hoc;have HR2:=Aa (Ah hb4 HR1.out);clear hb4 hoc i0 i1 i2 i3 l0 l1 l2 l3;obtain⟨r0,r1,r2,r3⟩:=BX HR2.out;obtain⟨g0,g1,g2,g3⟩:=Nx HR2.out;go_wp2_with fail
  obtain⟨OF,BF,y0,y1,y2,y3⟩:=Np S2.out.below HR2.out HRS.out.2 (by have h1:=HRS.out.1;have h2:=HS1.out;omega) OC.out;refine Bd (v:=.tuple #[.agg #[.slice s0 FL.pc.length t0,.slice s1 FL.regs.length t1,.slice s2 FL.mem.length t2,.slice s3 FL.buf.length t3],.bool true]) (by simp[results,Tryz.results19,go_sem,y0,y1,y2,y3]) rfl ?_;rw[E.out];first
   | exact⟨_,_,_,_,rfl,⟨_,_,OF⟩,BF⟩
   | exact⟨_,_,_,_,_,_,rfl,OF,BF⟩
def MB(B S:Nat)(vC vP vA vE:Value)(q:Nat):Prop:=(q=S∨q<B)∨vC.ownBlock=some q∨vP.ownBlock=some q∨vA.ownBlock=some q∨vE.ownBlock=some q
def ZA(F:Nat→Prop)(w:World)(v:Value)(c:Cf):Prop:=∀w',Bn F w w'→Ll w' v c
theorem ZA.now{F:Nat→Prop}{w:World}{v:Value}{c:Cf}(h:ZA F w v c):Ll w v c:=h w (Bn.refl F w)
theorem ZA.step{F F':Nat→Prop}{w w':World}{v:Value}{c:Cf}(h:ZA F w v c)(k:Bn F w w')(hF:∀q,F' q→F q∨w.heap.size≤q):ZA F' w' v c:=fun w'' k'=>by
 refine h w'' (k.trans2 k' fun i hi hf=>?_);rcases hF i hf with e | e
 ·exact e
 ·omega
def SD(F:Nat→Prop)(w:World)(v:Value)(l:List Int):Prop:=∀w',Bn F w w'→Am w' v l
theorem SD.now{F:Nat→Prop}{w:World}{v:Value}{l:List Int}(h:SD F w v l):Am w v l:=h w (Bn.refl F w)
theorem SD.step{F F':Nat→Prop}{w w':World}{v:Value}{l:List Int}(h:SD F w v l)(k:Bn F w w')(hF:∀q,F' q→F q∨w.heap.size≤q):SD F' w' v l:=fun w'' k'=>by
 refine h w'' (k.trans2 k' fun i hi hf=>?_);rcases hF i hf with e | e
 ·exact e
 ·omega
theorem AW.stable{base:Nat}{w:World}{v:Value}{l:List Int}(h:AW base w v l){F:Nat→Prop}(hF:∀q,F q→q<base):SD F w v l:=fun _ k=>
 AW.ints (base:=base) (Al h k fun q e hq=>by
  have:=(World.ownsRow.lt h q e).1;have:=hF q hq;omega)
theorem BB.stable{base:Nat}{w:World}{vp vr vm vb:Value}{rv bv:List Value}{c:Cf}(h:BB base w vp vr vm vb rv bv c){F:Nat→Prop}(hF:∀q,F q→q<base):ZA F w (.agg #[vp,vr,vm,vb]) c:=fun w' k=>by
 have ap:∀{e:TypeId} {size n:Nat} {v:Value} {xs:List Value},w.ownsRow base e size v n xs→w'.ownsRow base e size v n xs:=fun ho=>Al ho k fun q e hq=>by
  have:=(World.ownsRow.lt ho q e).1;have:=hF q hq;omega
 exact(BB.cf (rv:=rv) (bv:=bv) ⟨ap h.pc,⟨h.regs.len,ap h.regs.out,fun j hj=>ap (h.regs.inn j hj)⟩,ap h.mem,⟨h.buf.len,ap h.buf.out,fun j hj=>ap (h.buf.inn j hj)⟩,h.apart⟩)
theorem BB.stable2{base:Nat}{w0 w:World}{vp vr vm vb:Value}{rv bv:List Value}{c:Cf}(h:BB base w0 vp vr vm vb rv bv c)(hb:Below w0.heap.size w0 w){F:Nat→Prop}(hF:∀q,F q→q<base∨w0.heap.size≤q):ZA F w (.agg #[vp,vr,vm,vb]) c:=fun w' k=>by
 have ap:∀{e:TypeId} {size n:Nat} {v:Value} {xs:List Value},w0.ownsRow base e size v n xs→w'.ownsRow base e size v n xs:=fun ho=>Al (Nk ho hb) k fun q e hq=>by
  have:=World.ownsRow.lt ho q e;have:=hF q hq;omega
 exact(BB.cf (rv:=rv) (bv:=bv) ⟨ap h.pc,⟨h.regs.len,ap h.regs.out,fun j hj=>ap (h.regs.inn j hj)⟩,ap h.mem,⟨h.buf.len,ap h.buf.out,fun j hj=>ap (h.buf.inn j hj)⟩,h.apart⟩)
theorem GZ{base:Nat}{w:World}{e:TypeId}{size n:Nat}{v:Value}{xs:List Value}{z:Nat×Nat}{a:Array Value}{t:TypeId}(h:w.ownsRow base e size v n xs){b i:Nat}(hb:w.heap[b]?=some (.cells a t z))(ht:t≠e)(x:Value):(w.setCell ⟨b,i,none⟩ x).ownsRow base e size v n xs:=by
 refine ownsRow_setCell_other h (a:=⟨b,i,none⟩) (fun e2=>?_) x;obtain⟨-,h'⟩:=h;rcases h' with⟨rfl,-⟩ | ⟨g,cap,cur,rfl,-,hg,-⟩
 ·cases e2
 ·have e3:g=b:=by simpa[Value.ownBlock]using e2
  rw[e3,hb]at hg;cases hg;exact ht rfl
theorem BB.setT{base:Nat}{w:World}{vp vr vm vb:Value}{rv bv:List Value}{c:Cf}(h:BB base w vp vr vm vb rv bv c){b i:Nat}{a:Array Value}{z:Nat×Nat}(hb:w.heap[b]?=some (.cells a 62 z))(x:Value):BB base (w.setCell ⟨b,i,none⟩ x) vp vr vm vb rv bv c:=
 ⟨GZ h.pc hb (by decide) x,⟨h.regs.len,GZ h.regs.out hb (by decide) x,fun j hj=>GZ (h.regs.inn j hj) hb (by decide) x⟩,GZ h.mem hb (by decide) x,⟨h.buf.len,GZ h.buf.out hb (by decide) x,fun j hj=>GZ (h.buf.inn j hj) hb (by decide) x⟩,h.apart⟩
abbrev V4:=Value×Value×Value×Value
def GP(l:List V4):List Value:=l.flatMap (fun x=>[x.1,x.2.1,x.2.2.1,x.2.2.2])
def aR(x:V4):Value:=.agg #[x.1,x.2.1,x.2.2.1,x.2.2.2]
def On:V4:=(undef,undef,undef,undef)
theorem Nw{l:List V4}{j i:Nat}(hj:j<l.length)(hi:i<4):(GP l)[j*4+i]?=[(l.getD j On).1,(l.getD j On).2.1,(l.getD j On).2.2.1,(l.getD j On).2.2.2][i]?:=by
 induction l generalizing j with
 | nil=>simp at hj
 | cons x l ih=>
  unfold GP;rw[List.flatMap_cons];cases j with
  | zero=>
   rw[List.getElem?_append_left (by simp;omega)];simp
  | succ j=>
   rw[List.getElem?_append_right (by simp;omega)];have e:(j+1)*4+i - [x.1,x.2.1,x.2.2.1,x.2.2.2].length=j*4+i:=by simp;omega
   rw[e];have:=ih (j:=j) (by simpa using hj);unfold GP at this;rw[this];simp
structure IJ(w wr:World)(uc:Array Value)(S:Nat)(vC vP vA vE:Value)(cvs:List V4)(s:Sp):Prop where
 low:Below w.heap.size w wr
 bu:wr.heap[w.heap.size]?=some (.cells uc 25 (0,0))
 br:wr.heap[w.heap.size+1]?=some (.cells #[.slice none 0 0,.slice none 0 0,.slice none 0 0,.slice none 0 0,.slice none 0 0,.slice none 0 0] 34 (0,0))
 bs:wr.heap[S]?=some (.cells #[vC,.slice none 0 0,.slice none 0 0,.slice none 0 0,vP,vA] 34 (0,0))
 hS:w.heap.size+2≤S
 len:cvs.length=s.confs.length
 oC:wr.ownsRow (S+1) 62 4 vC cvs.length (GP cvs)
 cf:∀j,j<s.confs.length→ZA (MB (w.heap.size+2) S vC vP vA vE) wr (aR (cvs.getD j On)) (s.confs.getD j JQ)
 oP:AW (S+1) wr vP s.par
 oA:AW (S+1) wr vA s.ag
 oE:wr.ownsRow (S+1) 54 3 vE s.ed.length (AA s.ed)
 apart:[vC,vP,vA,vE].Pairwise AP
section
variable {w wr w':World} {uc:Array Value} {S:Nat} {vC vP vA vE:Value} {cvs:List V4} {s:Sp}
theorem IJ.more(h:IJ w wr uc S vC vP vA vE cvs s)(hb:Below wr.heap.size wr w'):IJ w w' uc S vC vP vA vE cvs s:=
 ⟨h.low.trans (hb.mono h.low.size),Ah hb h.bu,Ah hb h.br,Ah hb h.bs,h.hS,h.len,Nk h.oC hb,fun j hj=>(h.cf j hj).step (Df hb _) (fun _ hq=>.inl hq),h.oP.more hb,h.oA.more hb,Nk h.oE hb,h.apart⟩
theorem IJ.size(h:IJ w wr uc S vC vP vA vE cvs s):S+1≤wr.heap.size:=(BO.1 h.bs).1
theorem IJ.confs(h:IJ w wr uc S vC vP vA vE cvs s):FJ wr vC s.confs:=by
 obtain⟨a,cap,rfl⟩:=Bp h.oC;have hl:=h.len;refine⟨a,cap,by rw[hl],fun j hj=>?_⟩;obtain⟨g,cap',e,-,-⟩:=World.ownsRow.form h.oC (by omega);cases e;have hc:∀i,i<4→wr.cell? ⟨g,j*4+i,none⟩=[(cvs.getD j On).1,(cvs.getD j On).2.1,(cvs.getD j On).2.2.1,(cvs.getD j On).2.2.2][i]?:=fun i hi=>by
  rw[World.ownsRow.cellAt h.oC (j*4+i) (by omega),Nw (by omega) hi]
 refine⟨g,0,(cvs.getD j On).1,(cvs.getD j On).2.1,(cvs.getD j On).2.2.1,(cvs.getD j On).2.2.2,rfl,?_,?_,?_,?_,(h.cf j hj).now⟩
 ·have:=hc 0 (by omega);simpa using this
 ·have:=hc 1 (by omega);simpa using this
 ·have:=hc 2 (by omega);simpa using this
 ·have:=hc 3 (by omega);simpa using this
theorem IJ.blk(h:IJ w wr uc S vC vP vA vE cvs s){v:Value}(hv:v∈[vC,vP,vA,vE]){q:Nat}(e:v.ownBlock=some q):S+1≤q∧q<wr.heap.size:=by
 simp only[Br,List.not_mem_nil,or_false]at hv;rcases hv with rfl | rfl | rfl | rfl
 ·exact World.ownsRow.lt h.oC q e
 ·exact World.ownsRow.lt h.oP q e
 ·exact World.ownsRow.lt h.oA q e
 ·exact World.ownsRow.lt h.oE q e
theorem IJ.spF_lt(h:IJ w wr uc S vC vP vA vE cvs s):∀q,MB (w.heap.size+2) S vC vP vA vE q→q<wr.heap.size:=fun q hq=>by
 have:=h.size;have:=h.hS;rcases hq with e | e | e | e | e
 ·omega
 ·exact(h.blk (v:=vC) (by simp) e).2
 ·exact(h.blk (v:=vP) (by simp) e).2
 ·exact(h.blk (v:=vA) (by simp) e).2
 ·exact(h.blk (v:=vE) (by simp) e).2
theorem IJ.base(h:IJ w wr uc S vC vP vA vE cvs s){v:Value}(hv:v∈[vC,vP,vA,vE])(hg:wr.grownBy w' v.ownBlock):
 Below w.heap.size w w'∧w'.heap[w.heap.size]?=some (.cells uc 25 (0,0))∧w'.heap[w.heap.size+1]?=some (.cells #[.slice none 0 0,.slice none 0 0,.slice none 0 0,.slice none 0 0,.slice none 0 0,.slice none 0 0] 34 (0,0))∧w'.heap[S]?=some (.cells #[vC,.slice none 0 0,.slice none 0 0,.slice none 0 0,vP,vA] 34 (0,0)):=by
 have hS:=h.hS;have hsz:=h.size;have hne:∀k,k≤S→some k≠v.ownBlock:=fun k hk e=>by have:=(h.blk hv e.symm).1;omega
 refine⟨h.low.grown hg h.low.size (fun k hk=>by have:=(h.blk hv hk).1;omega),?_,?_,?_⟩
 ·rw[hg.block _ (by omega) (hne _ (by omega))];exact h.bu
 ·rw[hg.block _ (by omega) (hne _ (by omega))];exact h.br
 ·rw[hg.block _ (by omega) (hne _ (AQ _))];exact h.bs
theorem IJ.lts(h:IJ w wr uc S vC vP vA vE cvs s):∀x∈[vC,vP,vA,vE],∀q,x.ownBlock=some q→q<wr.heap.size:=fun _ hx _ e=>(h.blk hx e).2
theorem IJ.growC(h:IJ w wr uc S vC vP vA vE cvs s){vC':Value}{x:V4}{d:Cf}(hg:wr.grownBy w' vC.ownBlock)(hown:w'.ownsRow (S+1) 62 4 vC' (cvs.length+1) (GP cvs++[x.1,x.2.1,x.2.2.1,x.2.2.2]))(hor:∀q,vC'.ownBlock=some q→vC.ownBlock=some q∨wr.heap.size≤q)(hx:ZA (MB (w.heap.size+2) S vC vP vA vE) wr (aR x) d):
 IJ w (w'.setCell ⟨S,0,none⟩ vC') uc S vC' vP vA vE (cvs++[x]) {s with confs:=s.confs++[d]}:=by
 obtain⟨b1,b2,b3,b4⟩:=h.base (v:=vC) (by simp) hg;have hS:=h.hS;have hl:=h.len;obtain⟨p1,-⟩:=BG.1 h.apart;have hF:Bn (MB (w.heap.size+2) S vC vP vA vE) wr (w'.setCell ⟨S,0,none⟩ vC'):=Jk (Dj hg (fun q e=>.inr (.inl e))) (.inl (.inl rfl)) 0 vC';have hFF:∀q,MB (w.heap.size+2) S vC' vP vA vE q→MB (w.heap.size+2) S vC vP vA vE q∨wr.heap.size≤q:=fun q hq=>by
  rcases hq with e | e | e | e | e
  ·exact .inl (.inl e)
  ·rcases hor q e with e | e
   ·exact .inl (.inr (.inl e))
   ·exact .inr e
  ·exact .inl (.inr (.inr (.inl e)))
  ·exact .inl (.inr (.inr (.inr (.inl e))))
  ·exact .inl (.inr (.inr (.inr (.inr e))))
 refine⟨b1.setCell (p:=⟨S,0,none⟩) (by show w.heap.size≤S;omega) _,by rw[Au (by omega)];exact b2,by rw[Au (by omega)];exact b3,Ac b4 0 vC',hS,by simp[hl],?_,fun j hj=>?_,?_,?_,?_,?_⟩
 ·have:GP (cvs++[x])=GP cvs++[x.1,x.2.1,x.2.2.1,x.2.2.2]:=by unfold GP;rw[List.flatMap_append];simp
  rw[this,Bs,List.length_singleton];exact Fh hown (by show S<S+1;omega) _
 ·show ZA _ _ (aR ((cvs++[x]).getD j On)) ((s.confs++[d]).getD j JQ);simp only[Bs,List.length_singleton]at hj;by_cases e:j<s.confs.length
  ·rw[BR (by omega),BR e];exact(h.cf j e).step hF hFF
  ·obtain rfl:j=s.confs.length:=by omega
   rw[Dd hl,Hy];exact hx.step hF hFF
 ·exact(Fl h.oP hg (p1 vP (by simp)).symm |> fun o=>Fh o (by show S<S+1;omega) _)
 ·exact(Fl h.oA hg (p1 vA (by simp)).symm |> fun o=>Fh o (by show S<S+1;omega) _)
 ·exact(Fl h.oE hg (p1 vE (by simp)).symm |> fun o=>Fh o (by show S<S+1;omega) _)
 ·exact FI (V:=[]) (U:=[vP,vA,vE]) (N:=wr.heap.size) h.apart (fun y hy=>h.lts y (by simp only[List.nil_append]at hy;exact List.mem_cons_of_mem _ hy)) hor
theorem IJ.growP(h:IJ w wr uc S vC vP vA vE cvs s){vP':Value}{x:Int}(hg:wr.grownBy w' vP.ownBlock)(hown:w'.ownsRow (S+1) 3 1 vP' (s.par.length+1) (s.par.map (Value.int .i64)++[.int .i64 x]))(hor:∀q,vP'.ownBlock=some q→vP.ownBlock=some q∨wr.heap.size≤q):
 IJ w (w'.setCell ⟨S,4,none⟩ vP') uc S vC vP' vA vE cvs {s with par:=s.par++[x]}:=by
 obtain⟨b1,b2,b3,b4⟩:=h.base (v:=vP) (by simp) hg;have hS:=h.hS;obtain⟨p1,p2⟩:=BG.1 h.apart;obtain⟨p3,-⟩:=BG.1 p2;have hF:Bn (MB (w.heap.size+2) S vC vP vA vE) wr (w'.setCell ⟨S,4,none⟩ vP'):=Jk (Dj hg (fun q e=>.inr (.inr (.inl e)))) (.inl (.inl rfl)) 4 vP';have hFF:∀q,MB (w.heap.size+2) S vC vP' vA vE q→MB (w.heap.size+2) S vC vP vA vE q∨wr.heap.size≤q:=fun q hq=>by
  rcases hq with e | e | e | e | e
  ·exact .inl (.inl e)
  ·exact .inl (.inr (.inl e))
  ·rcases hor q e with e | e
   ·exact .inl (.inr (.inr (.inl e)))
   ·exact .inr e
  ·exact .inl (.inr (.inr (.inr (.inl e))))
  ·exact .inl (.inr (.inr (.inr (.inr e))))
 refine⟨b1.setCell (p:=⟨S,4,none⟩) (by show w.heap.size≤S;omega) _,by rw[Au (by omega)];exact b2,by rw[Au (by omega)];exact b3,Ac b4 4 vP',hS,h.len,?_,fun j hj=>(h.cf j hj).step hF hFF,?_,?_,?_,?_⟩
 ·exact(Fl h.oC hg (p1 vP (by simp)) |> fun o=>Fh o (by show S<S+1;omega) _)
 ·unfold AW;rw[Bs,Ec];exact Fh hown (by show S<S+1;omega) _
 ·exact(Fl h.oA hg (p3 vA (by simp)).symm |> fun o=>Fh o (by show S<S+1;omega) _)
 ·exact(Fl h.oE hg (p3 vE (by simp)).symm |> fun o=>Fh o (by show S<S+1;omega) _)
 ·exact FI (V:=[vC]) (U:=[vA,vE]) (N:=wr.heap.size) h.apart (fun y hy=>h.lts y (by simp at hy;simp only[Br];rcases hy with e | e | e;exact .inl e;exact .inr (.inr (.inl e));exact .inr (.inr (.inr (.inl e))))) hor
theorem IJ.growA(h:IJ w wr uc S vC vP vA vE cvs s){vA':Value}{x:Int}(hg:wr.grownBy w' vA.ownBlock)(hown:w'.ownsRow (S+1) 3 1 vA' (s.ag.length+1) (s.ag.map (Value.int .i64)++[.int .i64 x]))(hor:∀q,vA'.ownBlock=some q→vA.ownBlock=some q∨wr.heap.size≤q):
 IJ w (w'.setCell ⟨S,5,none⟩ vA') uc S vC vP vA' vE cvs {s with ag:=s.ag++[x]}:=by
 obtain⟨b1,b2,b3,b4⟩:=h.base (v:=vA) (by simp) hg;have hS:=h.hS;obtain⟨p1,p2⟩:=BG.1 h.apart;obtain⟨p3,p4⟩:=BG.1 p2;obtain⟨p5,-⟩:=BG.1 p4;have hF:Bn (MB (w.heap.size+2) S vC vP vA vE) wr (w'.setCell ⟨S,5,none⟩ vA'):=Jk (Dj hg (fun q e=>.inr (.inr (.inr (.inl e))))) (.inl (.inl rfl)) 5 vA';have hFF:∀q,MB (w.heap.size+2) S vC vP vA' vE q→MB (w.heap.size+2) S vC vP vA vE q∨wr.heap.size≤q:=fun q hq=>by
  rcases hq with e | e | e | e | e
  ·exact .inl (.inl e)
  ·exact .inl (.inr (.inl e))
  ·exact .inl (.inr (.inr (.inl e)))
  ·rcases hor q e with e | e
   ·exact .inl (.inr (.inr (.inr (.inl e))))
   ·exact .inr e
  ·exact .inl (.inr (.inr (.inr (.inr e))))
 refine⟨b1.setCell (p:=⟨S,5,none⟩) (by show w.heap.size≤S;omega) _,by rw[Au (by omega)];exact b2,by rw[Au (by omega)];exact b3,Ac b4 5 vA',hS,h.len,?_,fun j hj=>(h.cf j hj).step hF hFF,?_,?_,?_,?_⟩
 ·exact(Fl h.oC hg (p1 vA (by simp)) |> fun o=>Fh o (by show S<S+1;omega) _)
 ·exact(Fl h.oP hg (p3 vA (by simp)) |> fun o=>Fh o (by show S<S+1;omega) _)
 ·unfold AW;rw[Bs,Ec];exact Fh hown (by show S<S+1;omega) _
 ·exact(Fl h.oE hg (p5 vE (by simp)).symm |> fun o=>Fh o (by show S<S+1;omega) _)
 ·exact FI (V:=[vC,vP]) (U:=[vE]) (N:=wr.heap.size) h.apart (fun y hy=>h.lts y (by simp at hy;simp only[Br];rcases hy with e | e | e;exact .inl e;exact .inr (.inl e);exact .inr (.inr (.inr (.inl e))))) hor
theorem IJ.growE(h:IJ w wr uc S vC vP vA vE cvs s){vE':Value}{x:Ed}(hg:wr.grownBy w' vE.ownBlock)(hown:w'.ownsRow (S+1) 54 3 vE' (s.ed.length+1) (AA s.ed++AA [x]))(hor:∀q,vE'.ownBlock=some q→vE.ownBlock=some q∨wr.heap.size≤q):
 IJ w w' uc S vC vP vA vE' cvs {s with ed:=s.ed++[x]}:=by
 obtain⟨b1,b2,b3,b4⟩:=h.base (v:=vE) (by simp) hg;obtain⟨p1,p2⟩:=BG.1 h.apart;obtain⟨p3,p4⟩:=BG.1 p2;obtain⟨p5,-⟩:=BG.1 p4;have hF:Bn (MB (w.heap.size+2) S vC vP vA vE) wr w':=Dj hg (fun q e=>.inr (.inr (.inr (.inr e))));have hFF:∀q,MB (w.heap.size+2) S vC vP vA vE' q→MB (w.heap.size+2) S vC vP vA vE q∨wr.heap.size≤q:=fun q hq=>by
  rcases hq with e | e | e | e | e
  ·exact .inl (.inl e)
  ·exact .inl (.inr (.inl e))
  ·exact .inl (.inr (.inr (.inl e)))
  ·exact .inl (.inr (.inr (.inr (.inl e))))
  ·rcases hor q e with e | e
   ·exact .inl (.inr (.inr (.inr (.inr e))))
   ·exact .inr e
 refine⟨b1,b2,b3,b4,h.hS,h.len,Fl h.oC hg (p1 vE (by simp)),fun j hj=>(h.cf j hj).step hF hFF,Fl h.oP hg (p3 vE (by simp)),Fl h.oA hg (p5 vE (by simp)),?_,?_⟩
 ·rw[Bs,List.length_singleton];show w'.ownsRow (S+1) 54 3 vE' (s.ed.length+1) (AA (s.ed++[x]));have:AA (s.ed++[x])=AA s.ed++AA [x]:=by unfold AA;rw[List.flatMap_append]
  rw[this];exact hown
 ·exact FI (V:=[vC,vP,vA]) (U:=[]) (N:=wr.heap.size) h.apart (fun y hy=>h.lts y (by simp at hy;simp only[Br];rcases hy with e | e | e;exact .inl e;exact .inr (.inl e);exact .inr (.inr (.inl e)))) hor
theorem IJ.nil (low:Below w.heap.size w wr) (bu:wr.heap[w.heap.size]?=some (.cells uc 25 (0,0))) (br:wr.heap[w.heap.size+1]?=some (.cells #[.slice none 0 0,.slice none 0 0,.slice none 0 0,.slice none 0 0,.slice none 0 0,.slice none 0 0] 34 (0,0)))
 (bs:wr.heap[S]?=some (.cells #[.slice none 0 0,.slice none 0 0,.slice none 0 0,.slice none 0 0,.slice none 0 0,.slice none 0 0] 34 (0,0))) (hS:w.heap.size+2≤S):IJ w wr uc S (.slice none 0 0) (.slice none 0 0) (.slice none 0 0) (.slice none 0 0) [] ⟨[],[],[],[]⟩:=
 ⟨low,bu,br,bs,hS,rfl,CO _ _ _ _,fun j hj=>by simp at hj,CO _ _ _ _,CO _ _ _ _,CO _ _ _ _,List.pairwise_replicate (n:=4).2 (.inr (LB _))⟩
end
def Kt(base:Nat)(c:Cf)(vs:List Value)(j:Nat)(v:Value)(w:World):Prop:=
 if j=12∨j=13 then∃a,v=.tuple #[a,.bool true]∧Fd base c a w else if j=14 then Fd base c v w
 else if j=16 then∃b,v=.pointer (some ⟨b,0,none⟩)∧base≤b∧w.heap[b]?=some (.cells #[.slice none 0 0,.slice none 0 0,.slice none 0 0,.slice none 0 0] 62 (0,0)) else v=vs.getD j undef
theorem OO{base:Nat}{c:Cf}{vs:List Value}{j:Nat}{v:Value}{w w':World}(hb:Below w.heap.size w w')(h:Kt base c vs j v w):Kt base c vs j v w':=by
 unfold Kt at h ⊢;split
 ·rename_i e;rw[if_pos e]at h;obtain⟨a,e2,h⟩:=h;exact⟨a,e2,h.more hb⟩
 ·rename_i e;rw[if_neg e]at h;split
  ·rename_i e3;rw[if_pos e3]at h;exact h.more hb
  ·rename_i e3;rw[if_neg e3]at h;split
   ·rename_i e4;rw[if_pos e4]at h;obtain⟨b,e5,h1,h2⟩:=h;exact⟨b,e5,h1,Ah hb h2⟩
   ·rename_i e4;rw[if_neg e4]at h;exact h
def dK(c:Cf)(a b:Value)(w w':World):Prop:=∃bD s0 t0 s1 t1 s2 t2 s3 t3,b=.pointer (some ⟨bD,0,none⟩)∧a=.agg #[.slice s0 c.pc.length t0,.slice s1 c.regs.length t1,.slice s2 c.mem.length t2,.slice s3 c.buf.length t3]∧
 w'=(((w.setCell ⟨bD,0,none⟩ (.slice s0 c.pc.length t0)).setCell ⟨bD,1,none⟩ (.slice s1 c.regs.length t1)).setCell ⟨bD,2,none⟩ (.slice s2 c.mem.length t2)).setCell ⟨bD,3,none⟩ (.slice s3 c.buf.length t3)
theorem CN.cfL{u:DG}{L:Nat}{c:Cf}(h:CN u L c)(hR:Bi u=true)(hL:L≤1000):gF c:=by
 obtain⟨-,-,h3,⟨h4,h5⟩,-,h6⟩:=Bz.1 hR;refine⟨by rw[h.npc];omega,by rw[h.nmem];omega,by rw[h.nregs];omega,by rw[h.nbuf];omega,fun j hj=>?_,fun j hj=>?_⟩
 ·rw[h.nregs]at hj;have h1:=h.rlen j hj;have h2:=(CU.1 (h6 j hj)).1;omega
 ·have:=h.blen j (by rw[← h.nbuf];exact hj);omega
theorem Lx{w:World}{b o n c j:Nat}{l:List Int}(h:Am w (.slice (some ⟨b,o,none⟩) n c) l)(hj:j<l.length):w.cell? ⟨b,o+j,none⟩=some (.int .i64 (l.getD j 0)):=by
 obtain⟨a,c',e,h⟩:=h;cases e;obtain⟨b',o',e2,h2⟩:=h j hj;cases e2;exact h2
theorem Sa{base:Nat}{wr:World}{vC:Value}{cvs:List V4}{cs:List Cf}(oC:wr.ownsRow base 62 4 vC cvs.length (GP cvs))(hl:cvs.length=cs.length)(hcf:∀j,j<cs.length→Ll wr (aR (cvs.getD j On)) (cs.getD j JQ)):FJ wr vC cs:=by
 obtain⟨a,cap,rfl⟩:=Bp oC;refine⟨a,cap,by rw[hl],fun j hj=>?_⟩;obtain⟨g,cap',e,-,-⟩:=World.ownsRow.form oC (by omega);cases e;have hc:∀i,i<4→wr.cell? ⟨g,j*4+i,none⟩=[(cvs.getD j On).1,(cvs.getD j On).2.1,(cvs.getD j On).2.2.1,(cvs.getD j On).2.2.2][i]?:=fun i hi=>by
  rw[World.ownsRow.cellAt oC (j*4+i) (by omega),Nw (by omega) hi]
 refine⟨g,0,(cvs.getD j On).1,(cvs.getD j On).2.1,(cvs.getD j On).2.2.1,(cvs.getD j On).2.2.2,rfl,?_,?_,?_,?_,hcf j hj⟩
 ·have:=hc 0 (by omega);simpa using this
 ·have:=hc 1 (by omega);simpa using this
 ·have:=hc 2 (by omega);simpa using this
 ·have:=hc 3 (by omega);simpa using this
theorem Am.off{w w':World}{v:Value}{l:List Int}{b:Nat}{c:Array Value}{t:TypeId}{fr:Nat×Nat}(h:Am w v l)(hb:w.heap[b]?=some (.cells c t fr))(hc:∀(i:Nat) (x:Int),c[i]?≠some (.int .i64 x))(hf:Bn (fun k=>k=b) w w'):Am w' v l:=by
 obtain⟨a,cap,e,h1⟩:=h;refine⟨a,cap,e,fun j hj=>?_⟩;obtain⟨b',o',e2,h2⟩:=h1 j hj;refine⟨b',o',e2,?_⟩;have hne:b'≠b:=fun e3=>by
  subst e3;have h3:=h2;unfold World.cell? at h3;simp only[hb]at h3;simp at h3;exact hc _ _ h3
 have hlt:=World.block_lt_of_cell? w ⟨b',o'+j,none⟩ h2;have hk:=hf.block b' hlt hne;unfold World.cell? at h2 ⊢;rw[hk];exact h2
theorem Ao.offC{w w':World}{v:Value}{g:Gr}{b:Nat}{c:Array Value}{t:TypeId}{fr:Nat×Nat}(h:Ao w v g)(hb:w.heap[b]?=some (.cells c t fr))(hc:∀(i:Nat) (x:Int),c[i]?≠some (.int .i64 x))(hf:Bn (fun k=>k=b) w w'):Ao w' v g:=by
 obtain⟨⟨s,a,t,e,h1,h2,h3⟩,h4,h5,h6⟩:=h;exact⟨⟨s,a,t,e,h1.off hb hc hf,h2.off hb hc hf,h3.off hb hc hf⟩,h4,h5,h6⟩
theorem dE{w wx wE:World}{uc:Array Value}{S:Nat}{vC vP vA vE:Value}{cvs:List V4}{s:Sp}(M:IJ w wx uc S vC vP vA vE cvs s)(hf:Bn (fun q=>q=S∨q=w.heap.size+1) wx wE):FJ wE vC s.confs∧Am wE vP s.par∧Am wE vA s.ag∧Below w.heap.size w wE:=by
 have hS:=M.hS;have hF:∀{v:Value} {e:TypeId} {size n:Nat} {xs:List Value},wx.ownsRow (S+1) e size v n xs→wE.ownsRow (S+1) e size v n xs:=fun ho=>Al ho hf fun k e hk=>by
  have:=(World.ownsRow.lt ho k e).1;rcases hk with e | e <;> omega
 have hsp:Bn (MB (w.heap.size+2) S vC vP vA vE) wx wE:=hf.mono fun k _ hk=>.inl (hk.imp id (fun e=>by omega));refine⟨Sa (hF M.oC) M.len fun j hj=>M.cf j hj wE hsp,AW.ints (hF M.oP),AW.ints (hF M.oA),M.low.trans (hf.below (fun k hk=>by rcases hk with e | e <;> omega) M.low.size)⟩
def fT(F:Nat→Prop)(w:World)(v:Value)(s:Sp):Prop:=∃vC x1 x2 x3 vP vA,v=.agg #[vC,x1,x2,x3,vP,vA]∧St F (fun w=>FJ w vC s.confs) w∧St F (fun w=>Am w vP s.par) w∧St F (fun w=>Am w vA s.ag) w
theorem ZY{w wx wE:World}{uc:Array Value}{S:Nat}{vC vP vA vE x1 x2 x3:Value}{cvs:List V4}{s:Sp}(M:IJ w wx uc S vC vP vA vE cvs s)(hf:Bn (fun q=>q=S∨q=w.heap.size+1) wx wE):fT (fun q=>q<w.heap.size) wE (.agg #[vC,x1,x2,x3,vP,vA]) s:=by
 have hS:=M.hS;have hb:=M.low.size;have key:∀w',Bn (fun q=>q<w.heap.size) wE w'→Bn (fun q=>q=S∨q<w.heap.size+2) wx w':=fun w' hw=>(hf.mono (fun k _ hk=>hk.imp id (fun e=>by omega))).trans2 hw (fun i _ hi=>.inr (by omega));have hF:∀{v:Value} {e:TypeId} {size n:Nat} {xs:List Value} {w':World},Bn (fun q=>q<w.heap.size) wE w'→wx.ownsRow (S+1) e size v n xs→w'.ownsRow (S+1) e size v n xs:=fun hw ho=>Al ho (key _ hw) fun k e hk=>by
  have:=(World.ownsRow.lt ho k e).1;rcases hk with e | e <;> omega
 refine⟨_,_,_,_,_,_,rfl,fun w' hw=>?_,fun w' hw=>AW.ints (hF hw M.oP),fun w' hw=>AW.ints (hF hw M.oA)⟩;exact Sa (hF hw M.oC) M.len fun j hj=>M.cf j hj w' ((key w' hw).mono fun k _ hk=>.inl hk)
theorem OI{w:World}{b n:Nat}{l:List Ed}(h:w.heap[b]?=some (.cells (AA l).toArray 54 (0,0)))(hn:n=l.length)(cap:Nat):Ax w (.slice (some ⟨b,0,none⟩) n cap) l:=by
 subst hn;refine⟨_,cap,rfl,fun j hj=>⟨b,0,rfl,?_⟩⟩;obtain⟨e1,e2,e3⟩:=LC l j hj;rw[Nat.zero_add];exact⟨Ab h _ _ (by simpa using e1),Ab h _ _ (by simpa using e2),Ab h _ _ (by simpa using e3)⟩
structure TC(w wr:World)(b1:Nat)(c1:Array Value)(G:Gr):Prop where
 below:Below w.heap.size w wr
 l1:wr.heap[b1]?=some (.cells c1 32 (0,0))
 g1:Ao wr (.agg c1) G
theorem TC.more{w wr w':World}{b1:Nat}{c1:Array Value}{G:Gr}(h:TC w wr b1 c1 G)(hb:Below wr.heap.size wr w'):TC w w' b1 c1 G:=⟨h.below.trans (hb.mono h.below.size),Ah hb h.l1,h.g1.below hb⟩
theorem TC.intro{w wr:World}{c1:Array Value}{G:Gr}(hb:Below w.heap.size w wr)(hg:Ao wr (.agg c1) G):TC w (wr.alloc (.cells c1 32)) wr.heap.size c1 G:=
 ⟨hb.trans ((Ae _ _).mono hb.size),Ar wr _,hg.below (Ae _ _)⟩
end Go.Proofs.YtlhpjfnfemebdaaGreat
