/-
  Whether a thread can go on.
-/
import Derived.Test.YtlhpjfnfemebdaaGreatJMachP
namespace Go.Proofs.YtlhpjfnfemebdaaGreat
open Go.RowKit
def Dt(u:DG)(c:Cf)(t:Nat):NV:=(u.code.getD t []).getD (c.pc.getD t 0).toNat Dc
def UR(u:DG)(c:Cf)(model room:Int)(t:Nat):Bool:=
 if(Dt u c t).op=22 then false else if(Dt u c t).op=4 then decide (model=1) || KN (c.buf.getD t []) model room (Dt u c t).loc else if(Dt u c t).op=8∨(Dt u c t).op=5∨(Dt u c t).op=6∨(Dt u c t).op=7 then(c.buf.getD t []).length==0
 else if(Dt u c t).op=9 then(Ee c t (Dt u c t).loc.toNat==ES u.mod (c.regs.getD t []) (Dt u c t).e)!=(Dt u c t).ne else true
theorem QJ{u:DG}(h:Bi u=true){t:Nat}(ht:t<u.regs.length){i:Nat}(hi:i<(u.code.getD t []).length):((u.code.getD t []).getD i Dc).op=22∨(Ct ((u.code.getD t []).getD i Dc) (u.regs.getD t 0) (u.init.length:Int) ((u.code.getD t []).length:Int)=true∧i+1<(u.code.getD t []).length):=by
 obtain⟨-,-,-,-,-,h6⟩:=Bz.1 h;obtain⟨-,⟨h1,-⟩,hd,ho⟩:=CU.1 (h6 t ht);by_cases e:i=(u.code.getD t []).length - 1
 ·left;rw[← e]at hd;unfold Nm at hd;simp only[Ci,beq_iff_eq]at hd;exact hd.1.1.1.1.1.1
 ·exact .inr ⟨ho i (by omega),by omega⟩
set_option maxRecDepth 100000 in
set_option maxHeartbeats 32000000 in
theorem Qx(uv cv:Value)(u:DG)(c:Cf)(model room:Int)(t:Nat)(w:World)(hu:Ma w uv u)(hc:Ll w cv c)(hR:Bi u=true)(hL:Sn u)(hk:CN u 1000 c)(ht:t<u.regs.length):
 Calls Tryz.prog 37 #[uv,cv,.int .i64 model,.int .i64 room,.int .i64 (t:Nat)] w fun r w'=>r=.returned (.bool (UR u c model room t))∧Below w.heap.size w w':=by
 obtain⟨hp0,hp1⟩:=hk.pc t ht;obtain⟨⟨hm1,hm2⟩,-,-,-,hcl,-⟩:=Bz.1 hR;obtain⟨i,hi⟩:∃i:Nat,c.pc.getD t 0=(i:Int):=⟨(c.pc.getD t 0).toNat,by omega⟩;have hil:i<(u.code.getD t []).length:=by omega
 have hins:=QJ hR ht hil;have HX:Dt u c t=(u.code.getD t []).getD i Dc:=by unfold Dt;rw[hi,BT]
 have hrow:=hL.row _ (Jl (u:=u) (t:=t) (by omega));have hxl:=hrow.2 _ (NY hil);obtain⟨ia,ic,ga,gc,ca,cc,rfl,-,-,hcode⟩:=hu.var;obtain⟨pa,pc,ra,rc,ma,mc,ba,bc,rfl,h1,h2,h3,h4⟩:=hc.var;have HRD:=Aa (fun(loc:Nat) (hloc:loc<c.mem.length) (w':World) (hb:Below w.heap.size w w')=>Oq _ c t loc w' (hc.below hb) (by rw[hk.nbuf];exact ht) hloc (hk.blen t ht));have HVL:=Aa (fun(ev:Value) (l:List Ed) (hl:l.length≤1000000) (w':World) (hb:Below w.heap.size w w') (he:Ax w' ev l)=>Nt _ _ ev u c t l w' (hu.below hb) (hc.below hb) he (by rw[hk.nregs];exact ht) hl ⟨hm1,hm2⟩ (hk.reg t ht) (by have:=hk.rlen t ht;obtain⟨-,-,-,-,-,h6⟩:=Bz.1 hR;have:=(CU.1 (h6 t ht)).1;omega));obtain⟨a1,c1,e1,h1⟩:=h1;cases e1;obtain⟨b1,o1,rfl,x1⟩:=h1 t (by rw[hk.npc];exact ht);obtain⟨a2,c2,e2,hcode⟩:=hcode;cases e2;obtain⟨b2,o2,u2,rfl,x2,hrw⟩:=hcode t (by omega);obtain⟨a3,c3,rfl,hrw⟩:=hrw;obtain⟨b3,o3,rfl,ea,ec,fa,fc,q0,q1,q2,q3,q4,q5,q6,q7,q8⟩:=hrw i hil;obtain⟨a4,c4,e4,h4⟩:=h4;cases e4;obtain⟨b4,o4,u4,rfl,x4,hen⟩:=h4 t (by rw[hk.nbuf];exact ht);have HRM:=Aa (fun(loc:Int) (w':World) (hb:Below w.heap.size w w')=>cG u4 (c.buf.getD t []) model room loc w' (hen.below hb) (by have:=hk.blen t ht;omega));obtain⟨a5,c5,rfl,-⟩:=hen;have S0:=Aa (OT.start w #[.int .i64 u.mod,.slice ia u.init.length ic,.slice ga u.regs.length gc,.slice (some ⟨b2,o2,none⟩) u.code.length cc] 25 #[.slice (some ⟨b1,o1,none⟩) c.pc.length pc,.slice ra c.regs.length rc,.slice ma c.mem.length mc,.slice (some ⟨b4,o4,none⟩) c.buf.length bc] 62);have z1:(t:Int)<(c.pc.length:Int):=by rw[hk.npc];omega
 have z2:(t:Int)<(u.code.length:Int):=by omega
 have z3:(i:Int)<((u.code.getD t []).length:Int):=by omega
 have z4:(t:Int)<(c.buf.length:Int):=by rw[hk.nbuf];omega
 have HML:=Aa hk.nmem;rw[hi]at x1;unfold UR;rw[HX];clear hu hc hcode h1 h2 h3 h4 hk hR hL hp0 hp1 hi HX hrow hrw ht hcl hil;generalize (u.code.getD t []).length=rl at*;generalize (u.code.getD t []).getD i Dc=x at*;generalize c.buf.getD t []=bl at*;generalize u.regs.getD t 0=g at*;generalize c.regs.getD t []=own at*;obtain⟨RES,hRES⟩:∃r,r=(if x.op=22 then false else if x.op=4 then decide (model=1) || KN bl model room x.loc else if x.op=8∨x.op=5∨x.op=6∨x.op=7 then bl.length==0 else if x.op=9 then(Ee c t x.loc.toNat==ES u.mod own x.e)!=x.ne else true):=⟨_,rfl⟩;rw[← hRES];have F22:Hid (x.op=22→RES=false):=Aa (fun h=>by rw[hRES,if_pos h]);have F4a:Hid (x.op=4→model=1→RES=true):=Aa (fun h h1=>by rw[hRES,if_neg (by omega),if_pos h,Ck h1];rfl);have F4b:Hid (x.op=4→¬model=1→RES=KN bl model room x.loc):=Aa (fun h h1=>by rw[hRES,if_neg (by omega),if_pos h,Cj h1];rfl);have F8:Hid (x.op=8∨x.op=5∨x.op=6∨x.op=7→RES=(bl.length==0)):=Aa (fun h=>by rw[hRES,if_neg (by omega),if_neg (by omega),if_pos h]);have F9:Hid (x.op=9→RES=((Ee c t x.loc.toNat==ES u.mod own x.e)!=x.ne)):=Aa (fun h=>by rw[hRES,if_neg (by omega),if_neg (by omega),if_neg (by omega),if_pos h]);have FE:Hid (¬x.op=22→¬x.op=4→¬(x.op=8∨x.op=5∨x.op=6∨x.op=7)→¬x.op=9→RES=true):=Aa (fun h1 h2 h3 h4=>by rw[hRES,if_neg h1,if_neg h2,if_neg h3,if_neg h4]);clear hRES;generalize hw2:(w.alloc (.cells #[.int .i64 u.mod,.slice ia u.init.length ic,.slice ga u.regs.length gc,.slice (some ⟨b2,o2,none⟩) u.code.length cc] 25)).alloc (.cells #[.slice (some ⟨b1,o1,none⟩) c.pc.length pc,.slice ra c.regs.length rc,.slice ma c.mem.length mc,.slice (some ⟨b4,o4,none⟩) c.buf.length bc] 62)=w2 at*;obtain⟨x1,x2,q0,q1,q2,q3,q4,q5,q6⟩:=gG S0.out.below x1 x2 q0 q1 q2 q3 q4 q5 q6;have g0:=Ab S0.out.blk1 3 _ rfl;have g1:=Ab S0.out.blk2 0 _ rfl;obtain⟨yx1,yx2,yq0,yq1,yq2,yq3,yq4,yq5,yq6,yg0,yg1⟩:=eH (Ae w2 (.cells #[.int .i64 0,.int .i64 0,.int .i64 0,.slice none 0 0,.slice none 0 0,.bool false,.int .i64 0] 50)) x1 x2 q0 q1 q2 q3 q4 q5 q6 g0 g1;go_enter Tryz.func37,Tryz.ntmps37;go_wp2_with fail
 clear hw2
 go_region
 have kX:=Ar w2 (.cells #[.int .i64 x.op,.int .i64 x.reg,.int .i64 x.loc,.slice ea x.e.length ec,.slice fa x.f.length fc,.bool x.ne,.int .i64 x.tgt] 50);have B3:Below w2.heap.size w2 ((w2.alloc (.cells #[.int .i64 x.op,.int .i64 x.reg,.int .i64 x.loc,.slice ea x.e.length ec,.slice fa x.f.length fc,.bool x.ne,.int .i64 x.tgt] 50)).drew):=(Ae w2 _).drew;have S3:=Aa (S0.out.more B3);have KX:Hid (Li w2 ((w2.alloc (.cells #[.int .i64 x.op,.int .i64 x.reg,.int .i64 x.loc,.slice ea x.e.length ec,.slice fa x.f.length fc,.bool x.ne,.int .i64 x.tgt] 50)).drew) #[.int .i64 x.op,.int .i64 x.reg,.int .i64 x.loc,.slice ea x.e.length ec,.slice fa x.f.length fc,.bool x.ne,.int .i64 x.tgt] 50):=Aa ⟨B3,kX⟩;have Q7:=Aa (q7.below (S0.out.below.trans (B3.mono S0.out.below.size)));have x4:=Af S3.out.below x4;clear kX B3 yx1 yx2 yq0 yq1 yq2 yq3 yq4 yq5 yq6 yg0 yg1 x1 x2 q0 q1 q2 q3 q4 q5 q6 g0 g1 q7 q8;generalize (w2.alloc (.cells #[.int .i64 x.op,.int .i64 x.reg,.int .i64 x.loc,.slice ea x.e.length ec,.slice fa x.f.length fc,.bool x.ne,.int .i64 x.tgt] 50)).drew=w3 at*;obtain⟨k0,-,k2,k3,-,k5⟩:=JS KX.out.blk;obtain⟨j0,j1,j2,j3⟩:=BX S3.out.blk1;obtain⟨l0,l1,l2,l3⟩:=BX S3.out.blk2;clear KX;generalize w2.heap.size=bX at*;by_cases h22:x.op=22
 ·have E:=Aa (F22.out h22);rw[h22]at k0;go_wp2_with fail
  go_ret;exact⟨by rw[E.out];rfl,S3.out.below⟩
 have n22:(x.op==22)=false:=Bh h22;by_cases h4:x.op=4
 ·rw[h4]at k0;by_cases hm:model=1
  ·have E:=Aa (F4a.out h4 hm);subst hm;go_wp2_with fail
   go_quiet (fail)
   go_wp2_with fail
   go_ret;exact⟨by rw[E.out];rfl,by first | exact S3.out.below.drew | exact BD S3.out.below _⟩
  ·have nm:(model==1)=false:=Bh hm;have E:=Aa (F4b.out h4 hm);have HR:=Aa (fun(s:Bk w3)=>HRM.out x.loc s.1 (S3.out.below.trans (s.2.mono S3.out.below.size)));clear F22 F4a F4b F8 F9 FE;generalize KN bl model room x.loc=RM at*;have f0:∀s:Bk w3,s.1.cell? ⟨w.heap.size+1,3,none⟩=some (.slice (some ⟨b4,o4,none⟩) c.buf.length bc):=fun s=>s.cell l3;have f1:∀s:Bk w3,s.1.cell? ⟨b4,o4+t,none⟩=some (.slice a5 bl.length c5):=fun s=>s.cell x4;have f2:∀s:Bk w3,s.1.cell? ⟨bX,2,none⟩=some (.int .i64 x.loc):=fun s=>s.cell k2;go_wp2_with fail
   refine AD (by kernel_rfl) (by kernel_rfl) ?_;repeat (go_big_quiet_step ((go_at_call 64;exact Calls.sub_of (HR.out _))))
   refine wpQuiet_nil ?_;intro w4 hb4;have S4:=Aa (S3.out.more hb4);clear hb4;go_wp2_with fail
   go_ret;exact⟨by rw[E.out];rfl,S4.out.below⟩
 have n4:(x.op==4)=false:=Bh h4;by_cases h8:x.op=8∨x.op=5∨x.op=6∨x.op=7
 ·have E:=Aa (F8.out h8);have HBL:Hid (((bl.length:Int)==0)=(bl.length==0)):=Aa (by cases bl <;> simp <;> omega);rcases h8 with h8 | h8 | h8 | h8
  all_goals
   rw[h8]at k0;go_wp2_with fail
   go_ret;exact⟨by rw[E.out,← HBL.out];rfl,S3.out.below⟩
 have n8:(x.op==8)=false:=Bh (fun e=>h8 (.inl e));have n5:(x.op==5)=false:=Bh (fun e=>h8 (.inr (.inl e)));have n6:(x.op==6)=false:=Bh (fun e=>h8 (.inr (.inr (.inl e))));have n7:(x.op==7)=false:=Bh (fun e=>h8 (.inr (.inr (.inr e))));by_cases h9:x.op=9
 ·have E:=Aa (F9.out h9);rw[h9]at k0;have hone:=(hins.resolve_left h22).1;have hloc:0≤x.loc∧x.loc<(u.init.length:Int):=by
   unfold Ct at hone;rw[h9,show Bq 9 108=true from by decide]at hone;simp only[Ci,if_true]at hone;exact Er.1 hone.1.1.1.1.2
  obtain⟨q,hq⟩:∃q:Nat,x.loc=(q:Int):=⟨x.loc.toNat,by omega⟩;rw[hq,BT]at E;rw[hq]at k2;have HR1:=Aa (fun(s:Bk w3)=>HRD.out q (by have:=HML.out;omega) s.1 (S3.out.below.trans (s.2.mono S3.out.below.size)));have HV1:=Aa (fun(s:Bk w3)=>HVL.out (.slice ea x.e.length ec) x.e (by omega) s.1 (S3.out.below.trans (s.2.mono S3.out.below.size)) (Q7.out.below s.2));clear HRD HVL HRM hins hone hloc hq Q7 F22 F4a F4b F8 F9 FE;generalize Ee c t q=RV at*;generalize ES u.mod own x.e=VV at*;have f0:∀s:Bk w3,s.1.cell? ⟨w.heap.size,0,none⟩=some (.int .i64 u.mod):=fun s=>s.cell j0;have f1:∀s:Bk w3,s.1.cell? ⟨w.heap.size,1,none⟩=some (.slice ia u.init.length ic):=fun s=>s.cell j1;have f2:∀s:Bk w3,s.1.cell? ⟨w.heap.size,2,none⟩=some (.slice ga u.regs.length gc):=fun s=>s.cell j2;have f3:∀s:Bk w3,s.1.cell? ⟨w.heap.size,3,none⟩=some (.slice (some ⟨b2,o2,none⟩) u.code.length cc):=fun s=>s.cell j3;have e0:∀s:Bk w3,s.1.cell? ⟨w.heap.size+1,0,none⟩=some (.slice (some ⟨b1,o1,none⟩) c.pc.length pc):=fun s=>s.cell l0;have e1:∀s:Bk w3,s.1.cell? ⟨w.heap.size+1,1,none⟩=some (.slice ra c.regs.length rc):=fun s=>s.cell l1;have e2:∀s:Bk w3,s.1.cell? ⟨w.heap.size+1,2,none⟩=some (.slice ma c.mem.length mc):=fun s=>s.cell l2;have e3:∀s:Bk w3,s.1.cell? ⟨w.heap.size+1,3,none⟩=some (.slice (some ⟨b4,o4,none⟩) c.buf.length bc):=fun s=>s.cell l3;have d2:∀s:Bk w3,s.1.cell? ⟨bX,2,none⟩=some (.int .i64 (q:Nat)):=fun s=>s.cell k2;have d3:∀s:Bk w3,s.1.cell? ⟨bX,3,none⟩=some (.slice ea x.e.length ec):=fun s=>s.cell k3;have d5:∀s:Bk w3,s.1.cell? ⟨bX,5,none⟩=some (.bool x.ne):=fun s=>s.cell k5;go_wp2_with fail
  refine AD (by kernel_rfl) (by kernel_rfl) ?_;repeat (go_big_quiet_step ((first | (go_at_call 60;exact Calls.sub_of (HR1.out _)) | (go_at_call 59;exact Calls.sub_of (HV1.out _)))))
  refine wpQuiet_nil ?_;intro w4 hb4;have S4:=Aa (S3.out.more hb4);clear hb4;go_wp2_with fail
  go_ret;exact⟨by rw[E.out];rfl,S4.out.below⟩
 have n9:(x.op==9)=false:=Bh h9;have E:=Aa (FE.out h22 h4 h8 h9);go_wp2_with fail
 go_ret;exact⟨by rw[E.out];rfl,S3.out.below⟩
end Go.Proofs.YtlhpjfnfemebdaaGreat
