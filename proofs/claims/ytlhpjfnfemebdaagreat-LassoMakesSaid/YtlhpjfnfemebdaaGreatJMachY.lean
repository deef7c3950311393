/- Who can act. What acting makes of a configuration, plain: a -/
import Derived.Test.YtlhpjfnfemebdaaGreatMachN
import Derived.Test.YtlhpjfnfemebdaaGreatMachT
import Derived.Test.YtlhpjfnfemebdaaGreatJPartsMem
set_option maxRecDepth 100000
set_option maxHeartbeats 64000000
set_option linter.unusedSimpArgs false
namespace Go.Proofs.YtlhpjfnfemebdaaGreat
open Go.RowKit
def Fx(u:DG)(model:Int):Nat:=if model=1 then u.regs.length else if model=2 then 2*u.regs.length else if model=3 then u.regs.length+u.regs.length*u.init.length else 0
theorem Ix{u:DG}(h:Bi u=true)(model:Int):Fx u model≤28:=by
 obtain⟨-,-,h3,⟨h4,h5⟩,-,-⟩:=Bz.1 h;have:u.regs.length*u.init.length≤4*6:=Nat.mul_le_mul h5 h3;unfold Fx
 repeat' split
 all_goals omega
theorem Js(uv:Value)(u:DG)(model:Int)(w:World)(hu:Ma w uv u)(hR:Bi u=true)(hL:Sn u):
 Calls Tryz.prog 8 #[uv,.int .i64 model] w fun r w'=>r=.returned (.int .i64 (Fx u model:Nat))∧Below w.heap.size w w':=by
 have HR:=Aa (fun(w':World) (hb:Below w.heap.size w w')=>(by have:=Lo uv u w' (hu.below hb) hL;rwa [hR]at this:Calls Tryz.prog 22 #[uv] w' fun e w2=>e=.returned (.bool true)∧Below w'.heap.size w' w2));obtain⟨-,-,h3,⟨h4,h5⟩,-,-⟩:=Bz.1 hR;have hmul:u.regs.length*u.init.length≤4*6:=Nat.mul_le_mul h5 h3;obtain⟨ia,ic,ga,gc,ca,cc,rfl,-⟩:=hu.var;have S0:=Aa (Li.start w #[.int .i64 u.mod,.slice ia u.init.length ic,.slice ga u.regs.length gc,.slice ca u.code.length cc] 25);clear hu hR hL;have hmI:(u.regs.length:Int)*(u.init.length:Int)=((u.regs.length*u.init.length:Nat):Int):=by rw[Int.natCast_mul]
 unfold Fx;generalize hnm:u.regs.length*u.init.length=nm at*;clear hnm;have W1:IntKind.i64.wrap (2*(u.regs.length:Int))=2*(u.regs.length:Int):=DS _ (by omega);have W2:IntKind.i64.wrap ((nm:Nat):Int)=(nm:Int):=DS _ (by omega);have W3:IntKind.i64.wrap ((u.regs.length:Int)+(nm:Int))=(u.regs.length:Int)+(nm:Int):=DS _ (by omega);by_cases h1:model=1
 ·subst h1;rw[if_pos rfl];go_enter Tryz.func8,Tryz.ntmps8;go_wp2_with (go_at_call 22;refine(HR.out _ S0.out.below).mono ?_;rintro e1 w1 ⟨rfl,hb1⟩;have S1:=Aa (S0.out.more hb1);clear hb1;obtain⟨-,c1,c2⟩:=DY S1.out.blk)
  go_ret;exact⟨rfl,S1.out.below⟩
 rw[if_neg h1];have n1:(model==1)=false:=Bh h1;by_cases h2:model=2
 ·subst h2;rw[if_pos rfl];go_enter Tryz.func8,Tryz.ntmps8;go_wp2_with (go_at_call 22;refine(HR.out _ S0.out.below).mono ?_;rintro e1 w1 ⟨rfl,hb1⟩;have S1:=Aa (S0.out.more hb1);clear hb1;obtain⟨-,c1,c2⟩:=DY S1.out.blk)
  go_ret;exact⟨by simp,S1.out.below⟩
 rw[if_neg h2];have n2:(model==2)=false:=Bh h2;by_cases h3':model=3
 ·subst h3';rw[if_pos rfl];go_enter Tryz.func8,Tryz.ntmps8;go_wp2_with (go_at_call 22;refine(HR.out _ S0.out.below).mono ?_;rintro e1 w1 ⟨rfl,hb1⟩;have S1:=Aa (S0.out.more hb1);clear hb1;obtain⟨-,c1,c2⟩:=DY S1.out.blk)
  go_ret;exact⟨by simp,S1.out.below⟩
 rw[if_neg h3'];have n3:(model==3)=false:=Bh h3';go_enter Tryz.func8,Tryz.ntmps8;go_wp2_with (go_at_call 22;refine(HR.out _ S0.out.below).mono ?_;rintro e1 w1 ⟨rfl,hb1⟩;have S1:=Aa (S0.out.more hb1);clear hb1;obtain⟨-,c1,c2⟩:=DY S1.out.blk)
 go_ret;exact⟨rfl,S1.out.below⟩
def QT(u:DG)(c:Cf)(model room:Int)(a:Nat):Bool:=
 if a<u.regs.length then UR u c model room a else if model=2 then DM c 2 (a - u.regs.length) (-1) else DM c 3 ((a - u.regs.length) / u.init.length) (((a - u.regs.length) % u.init.length:Nat):Int)
theorem Ui(uv cv:Value)(u:DG)(c:Cf)(model room:Int)(a:Nat)(w:World)(hu:Ma w uv u)(hc:Ll w cv c)(hR:Bi u=true)(hL:Sn u)(hk:CN u 1000 c)(ha:a<Fx u model):
 Calls Tryz.prog 21 #[uv,cv,.int .i64 model,.int .i64 room,.int .i64 (a:Nat)] w fun r w'=>r=.returned (.bool (QT u c model room a))∧Below w.heap.size w w':=by
 have hag:=Ix hR model;have HA:=Aa (fun(w':World) (hb:Below w.heap.size w w')=>Js uv u model w' (hu.below hb) hR hL);have HE:=Aa (fun(w':World) (hb:Below w.heap.size w w') (hlt:a<u.regs.length)=>Qx uv cv u c model room a w' (hu.below hb) (hc.below hb) hR hL hk hlt);have HF:=Aa (fun(w':World) (hb:Below w.heap.size w w') (mo loc:Int) (t:Nat) (ht:t<u.regs.length) (hml:mo=2∧loc=-1∨mo=3)=>MX cv c mo loc t w' (hc.below hb) (by rw[hk.nbuf];exact ht) (hk.blen t ht) hml);obtain⟨-,-,h3,⟨h4,h5⟩,-,-⟩:=Bz.1 hR;obtain⟨ia,ic,ga,gc,ca,cc,rfl,-⟩:=hu.var;obtain⟨pa,pc,ra,rc,ma,mc,ba,bc,rfl,-⟩:=hc.var;have S0:=Aa (OT.start w #[.int .i64 u.mod,.slice ia u.init.length ic,.slice ga u.regs.length gc,.slice ca u.code.length cc] 25 #[.slice pa c.pc.length pc,.slice ra c.regs.length rc,.slice ma c.mem.length mc,.slice ba c.buf.length bc] 62);have hAG:∀m,Fx u m=if m=1 then u.regs.length else if m=2 then 2*u.regs.length else if m=3 then u.regs.length+u.regs.length*u.init.length else 0:=fun m=>rfl
 have HAG:=Aa hAG;clear hu hc hk hL hR hAG;generalize hw2:(w.alloc (.cells #[.int .i64 u.mod,.slice ia u.init.length ic,.slice ga u.regs.length gc,.slice ca u.code.length cc] 25)).alloc (.cells #[.slice pa c.pc.length pc,.slice ra c.regs.length rc,.slice ma c.mem.length mc,.slice ba c.buf.length bc] 62)=w2 at*;obtain⟨i0,i1,i2,i3⟩:=BX S0.out.blk1;by_cases hlt:a<u.regs.length
 ·have E:Hid (QT u c model room a=UR u c model room a):=Aa (if_pos hlt);generalize QT u c model room a=RES at*;have HE2:=Aa (fun(w':World) (hb:Below w.heap.size w w')=>HE.out w' hb hlt);generalize UR u c model room a=ET at*;clear HE HF HAG;have z1:(a:Int)<(u.regs.length:Int):=by omega
  have z2:(a:Int)<(Fx u model:Int):=by omega
  generalize Fx u model=ag at*;go_enter Tryz.func21,Tryz.ntmps21;go_wp2_with (first
   | (go_at_call 37;refine(HE2.out _ S1.out.below).mono ?_;rintro e2 w4 ⟨rfl,hb2⟩;have S2:=Aa (S1.out.more hb2);clear hb2)
   | (go_at_call 8;refine(HA.out _ S0.out.below).mono ?_;rintro e1 w3 ⟨rfl,hb1⟩;have S1:=Aa (S0.out.more hb1);clear hb1 i0 i1 i2 i3;obtain⟨i0,i1,i2,i3⟩:=BX S1.out.blk1;obtain⟨l0,l1,l2,l3⟩:=BX S1.out.blk2))
  go_ret;exact⟨by rw[E.out];rfl,S2.out.below⟩
 obtain⟨k,rfl⟩:∃k,a=u.regs.length+k:=⟨a - u.regs.length,by omega⟩;have z1:¬((u.regs.length+k:Nat):Int)<(u.regs.length:Int):=by omega
 have z1':(u.regs.length:Int)≤(u.regs.length:Int)+(k:Int):=by omega
 have z2:(u.regs.length:Int)+(k:Int)<(Fx u model:Int):=by omega
 have hk0:0≤(u.regs.length:Int)+(k:Int):=by omega
 have W1:IntKind.i64.wrap ((u.regs.length:Int)+(k:Int) - (u.regs.length:Int))=(k:Int):=by rw[DS _ (by omega)];omega
 have hen:QT u c model room (u.regs.length+k)=if model=2 then DM c 2 k (-1) else DM c 3 (k / u.init.length) ((k % u.init.length:Nat):Int):=by
  unfold QT;rw[if_neg hlt,Nat.add_sub_cancel_left]
 have HEN:=Aa hen;generalize QT u c model room (u.regs.length+k)=RES at*;clear hen HE hlt;have n1:model≠1:=fun e=>by
  have:=HAG.out model;rw[if_pos e]at this;omega
 by_cases h2:model=2
 ·have hkn:k<u.regs.length:=by
   have:=HAG.out model;rw[if_neg n1,if_pos h2]at this;omega
  subst h2;have E:=Aa (HEN.out.trans (if_pos rfl));have HF2:=Aa (fun(w':World) (hb:Below w.heap.size w w')=>HF.out w' hb 2 (-1) k hkn (.inl ⟨rfl,rfl⟩));generalize DM c 2 k (-1)=FL at*;clear HF HEN HAG n1;generalize Fx u 2=ag at*;go_enter Tryz.func21,Tryz.ntmps21;go_wp2_with (first
   | (go_at_call 38;refine(HF2.out _ S1.out.below).mono ?_;rintro e2 w4 ⟨rfl,hb2⟩;have S2:=Aa (S1.out.more hb2);clear hb2)
   | (go_at_call 8;refine(HA.out _ S0.out.below).mono ?_;rintro e1 w3 ⟨rfl,hb1⟩;have S1:=Aa (S0.out.more hb1);clear hb1 i0 i1 i2 i3;obtain⟨i0,i1,i2,i3⟩:=BX S1.out.blk1;obtain⟨l0,l1,l2,l3⟩:=BX S1.out.blk2))
  go_ret;exact⟨by rw[E.out];rfl,S2.out.below⟩
 ·have h3':model=3:=by
   have:=HAG.out model;rw[if_neg n1,if_neg h2]at this;by_cases h:model=3
   ·exact h
   ·rw[if_neg h]at this;omega
  have E:=Aa (HEN.out.trans (if_neg h2));have hkm:k<u.regs.length*u.init.length:=by
   have:=HAG.out model;rw[if_neg n1,if_neg h2,if_pos h3']at this;omega
  have hm0:0<u.init.length:=by
   rcases Nat.eq_zero_or_pos u.init.length with h | h
   ·rw[h,Nat.mul_zero]at hkm;omega
   ·exact h
  have hdn:k / u.init.length<u.regs.length:=Nat.div_lt_of_lt_mul (by rw[Nat.mul_comm];exact hkm);subst h3';have HF3:=Aa (fun(w':World) (hb:Below w.heap.size w w')=>HF.out w' hb 3 ((k % u.init.length:Nat):Int) (k / u.init.length) hdn (.inr rfl));have T1:(k:Int).tdiv (u.init.length:Int)=((k / u.init.length:Nat):Int):=by rw[Int.tdiv_eq_ediv_of_nonneg (by omega)];rfl
  have T2:(k:Int).tmod (u.init.length:Int)=((k % u.init.length:Nat):Int):=by rw[Int.tmod_eq_emod_of_nonneg (by omega)];rfl
  have hdk:k / u.init.length≤k:=Nat.div_le_self _ _;have nz:((u.init.length:Int)==0)=false:=Bh (by omega);clear HF HEN HAG n1 h2 hkm hdn;generalize k / u.init.length=kd at*;have W2:IntKind.i64.wrap (kd:Int)=(kd:Int):=DS _ (by omega);generalize k % u.init.length=km at*;generalize DM c 3 kd (km:Int)=FL at*;generalize Fx u 3=ag at*;go_enter Tryz.func21,Tryz.ntmps21;go_wp2_with (go_at_call 8;refine(HA.out _ S0.out.below).mono ?_;rintro e1 w3 ⟨rfl,hb1⟩;have S1:=Aa (S0.out.more hb1);clear hb1 i0 i1 i2 i3;obtain⟨i0,i1,i2,i3⟩:=BX S1.out.blk1;obtain⟨l0,l1,l2,l3⟩:=BX S1.out.blk2)
  have HF4:=Aa (fun(s:Bk w3)=>HF3.out s.1 (S1.out.below.trans (s.2.mono S1.out.below.size)));have f1:∀s:Bk w3,s.1.cell? ⟨w.heap.size,1,none⟩=some (.slice ia u.init.length ic):=fun s=>s.cell i1;have e0:∀s:Bk w3,s.1.cell? ⟨w.heap.size+1,0,none⟩=some (.slice pa c.pc.length pc):=fun s=>s.cell l0;have e1:∀s:Bk w3,s.1.cell? ⟨w.heap.size+1,1,none⟩=some (.slice ra c.regs.length rc):=fun s=>s.cell l1;have e2:∀s:Bk w3,s.1.cell? ⟨w.heap.size+1,2,none⟩=some (.slice ma c.mem.length mc):=fun s=>s.cell l2;have e3:∀s:Bk w3,s.1.cell? ⟨w.heap.size+1,3,none⟩=some (.slice ba c.buf.length bc):=fun s=>s.cell l3;refine AD (by kernel_rfl) (by kernel_rfl) ?_;repeat (go_big_quiet_step ((go_at_call 38;exact Calls.sub_of (HF4.out _))))
  refine wpQuiet_nil ?_;intro w4 hb4;have S2:=Aa (S1.out.more hb4);clear hb4;go_wp2_with fail
  go_ret;exact⟨by rw[E.out];rfl,S2.out.below⟩
def Pb(u:DG)(c:Cf)(model:Int)(t:Nat):Cf:=
 let x:=Dt u c t
 let e:=ES u.mod (c.regs.getD t []) x.e
 let p:=c.pc.set t (c.pc.getD t 0+1)
 let m:=c.mem.getD x.loc.toNat 0
 let rg:=fun v=>c.regs.set t ((c.regs.getD t []).set x.reg.toNat v)
 if x.op=20 then {c with pc:=c.pc.set t x.tgt}
 else if x.op=21 then(if e=0 then {c with pc:=c.pc.set t x.tgt} else {c with pc:=p})
 else if x.op=2 then {c with pc:=p,regs:=rg e}
 else if x.op=3 then {c with pc:=p,regs:=rg (Ee c t x.loc.toNat)}
 else if x.op=4 then(if model=1 then {c with pc:=p,mem:=c.mem.set x.loc.toNat e} else {c with pc:=p,buf:=c.buf.set t (Ef (c.buf.getD t []) model (x.loc,e))})
 else if x.op=5 then(if m=e then {c with pc:=p,regs:=rg m,mem:=c.mem.set x.loc.toNat (ES u.mod (c.regs.getD t []) x.f)} else {c with pc:=p,regs:=rg m})
 else if x.op=6 then {c with pc:=p,regs:=rg m,mem:=c.mem.set x.loc.toNat (Int.tmod (m+e) u.mod)}
 else if x.op=7 then {c with pc:=p,regs:=rg m,mem:=c.mem.set x.loc.toNat e}
 else {c with pc:=p}
def GC(c:Cf)(model:Int)(t:Nat)(loc:Int):Cf:=
 let p:=Es (c.buf.getD t []) model loc
 {c with buf:=c.buf.set t p.1,mem:=c.mem.set p.2.1.1.toNat p.2.1.2}
def Pc(u:DG)(c:Cf)(model:Int)(a:Nat):Cf:=
 if a<u.regs.length then Pb u c model a else if model=2 then GC c 2 (a - u.regs.length) (-1) else GC c 3 ((a - u.regs.length) / u.init.length) (((a - u.regs.length) % u.init.length:Nat):Int)
theorem CX{x:NV}{regs locs many:Int}(h:Ct x regs locs many=true):IN x.op=true∧(Bq x.op 114=true→0≤x.reg∧x.reg<regs)∧(Bq x.op 108=true→0≤x.loc∧x.loc<locs)∧(Bq x.op 116=true→0≤x.tgt∧x.tgt<many):=by
 unfold Ct at h;simp only[Ci]at h;obtain⟨⟨⟨⟨⟨⟨h1,h2⟩,h3⟩,h4⟩,-⟩,-⟩,-⟩:=h;refine⟨h1,fun h=>?_,fun h=>?_,fun h=>?_⟩
 ·rw[if_pos h]at h2;exact Er.1 h2
 ·rw[if_pos h]at h3;exact Er.1 h3
 ·rw[if_pos h]at h4;exact Er.1 h4
theorem Jd{op:Int}(h:op=2∨op=3∨op=5∨op=6∨op=7):Bq op 114=true:=by
 rcases h with rfl | rfl | rfl | rfl | rfl <;> decide
theorem Ep{op:Int}(h:op=3∨op=4∨op=5∨op=6∨op=7∨op=9):Bq op 108=true:=by
 rcases h with rfl | rfl | rfl | rfl | rfl | rfl <;> decide
theorem Vh{op:Int}(h:op=20∨op=21):Bq op 116=true:=by
 rcases h with rfl | rfl <;> decide
theorem Hd{α:Type}{l:List α}{i j:Nat}{x d:α}(hi:i<l.length):(l.set i x).getD j d=if j=i then x else l.getD j d:=by
 by_cases e:j=i
 ·subst e;simp[List.getD,hi]
 ·rw[if_neg e];simp[List.getD,List.getElem?_set_ne (Ne.symm e)]
section
variable {u:DG} {c:Cf} {L:Nat}
theorem CN.more(h:CN u L c){L':Nat}(hl:L≤L'):CN u L' c:={h with blen:=fun t ht=>CP (h.blen t ht) hl}
theorem CN.setPc(h:CN u L c){t:Nat}(ht:t<u.regs.length){x:Int}(h0:0≤x)(h1:x<((u.code.getD t []).length:Int)):CN u L {c with pc:=c.pc.set t x}:=
 {h with
  npc:=by rw[List.length_set];exact h.npc
  pc:=fun k hk=>by
   show 0≤(c.pc.set t x).getD k 0∧(c.pc.set t x).getD k 0<_;rw[Hd (by rw[h.npc];exact ht)];split
   ·rename_i e;rw[e];exact⟨h0,h1⟩
   ·exact h.pc k hk}
theorem CN.setReg(h:CN u L c){t:Nat}(ht:t<u.regs.length){r:Nat}{x:Int}(h0:0≤x∧x<u.mod):CN u L {c with regs:=c.regs.set t ((c.regs.getD t []).set r x)}:=
 {h with
  nregs:=by rw[List.length_set];exact h.nregs
  rlen:=fun k hk=>by
   show((((c.regs.set t ((c.regs.getD t []).set r x)).getD k []).length:Nat):Int)=_;rw[Hd (by rw[h.nregs];exact ht)];split
   ·rename_i e;rw[e,List.length_set];exact h.rlen t ht
   ·exact h.rlen k hk
  reg:=fun k hk=>by
   show Em ((c.regs.set t ((c.regs.getD t []).set r x)).getD k []) u.mod=true;rw[Hd (by rw[h.nregs];exact ht)];split
   ·exact Kw (h.reg t ht) h0 r
   ·exact h.reg k hk}
theorem CN.setMem(h:CN u L c){l:Nat}{x:Int}(h0:0≤x∧x<u.mod):CN u L {c with mem:=c.mem.set l x}:=
 {h with
  nmem:=by rw[List.length_set];exact h.nmem
  mem:=Kw h.mem h0 l}
theorem CN.setBuf(h:CN u L c){L':Nat}(hL:L≤L'){t:Nat}(ht:t<u.regs.length){b:List En}(hb:b.length≤L')(he:∀y∈b,(0≤y.1∧y.1<(u.init.length:Int))∧0≤y.2∧y.2<u.mod):CN u L' {c with buf:=c.buf.set t b}:=
 {h with
  nbuf:=by rw[List.length_set];exact h.nbuf
  blen:=fun k hk=>by
   show((c.buf.set t b).getD k []).length≤L';rw[Hd (by rw[h.nbuf];exact ht)];split
   ·exact hb
   ·exact CP (h.blen k hk) hL
  ens:=fun k hk y hy=>by
   have hy':y∈(c.buf.set t b).getD k []:=hy;rw[Hd (by rw[h.nbuf];exact ht)]at hy';split at hy'
   ·exact he y hy'
   ·exact h.ens k hk y hy'}
theorem PY{b:List En}{loc:Int}:∀{k:Nat} {v:Int},k≤b.length→JH b loc k=some v→∃y∈b,y.2=v
 | 0,_,_,h=>by simp[JH]at h
 | k+1,v,hk,h=>by
  rw[JH]at h;split at h
  ·have:=Option.some.inj h;exact⟨b.getD k (0,0),by simp[List.getD,show k<b.length by omega],this⟩
  ·exact PY (by omega) h
theorem CN.reads(h:CN u L c){t:Nat}(ht:t<u.regs.length){l:Nat}(hl:l<u.init.length):0≤Ee c t l∧Ee c t l<u.mod:=by
 unfold Ee;cases e:NF (c.buf.getD t []) (l:Int) with
 | none=>exact Fm h.mem (by rw[h.nmem];exact hl)
 | some v=>
  obtain⟨y,hy,rfl⟩:=PY (AQ _) e;exact(h.ens t ht y hy).2
theorem MH{e y:En}{b:List En}:∀{k:Nat},k≤b.length→y∈(MJ e b k).1→y=e∨y∈b
 | 0,_,h=>by simp[MJ]at h
 | k+1,hk,h=>by
  have hm:b.getD k (0,0)∈b:=by simp[List.getD,show k<b.length by omega]
  rw[MJ]at h
  repeat' split at h
  all_goals (simp only[CJ,Br,List.not_mem_nil,or_false]at h)
  ·rcases h with(h | h) | h
   ·exact MH (by omega) h
   ·exact .inl h
   ·exact .inr (h▸hm)
  ·rcases h with h | rfl
   ·exact MH (by omega) h
   ·exact .inr hm
theorem Ww{b:List En}{model:Int}{e y:En}(h:y∈Ef b model e):y=e∨y∈b:=by
 unfold Ef at h
 repeat' split at h
 ·rcases CJ.1 h with h | h
  ·exact .inr h
  ·exact .inl (Ds.1 h)
 ·exact MH (AQ _) h
 ·rcases CJ.1 h with h | h
  ·exact MH (AQ _) h
  ·exact .inl (Ds.1 h)
theorem Wx(b:List En)(model:Int)(e:En):(Ef b model e).length≤b.length+1:=by
 have hk:=Qq e b b.length;unfold Ef
 repeat' split
 ·simp
 ·rename_i h;rw[if_pos h]at hk;exact hk
 ·rename_i h;rw[if_neg h]at hk;simp;omega
theorem aE(hR:Bi u=true)(h:CN u L c){model room:Int}{t:Nat}(ht:t<u.regs.length)(hen:UR u c model room t=true):CN u (L+1) (Pb u c model t):=by
 obtain⟨hp0,hp1⟩:=h.pc t ht;obtain⟨⟨hm1,hm2⟩,-⟩:=Bz.1 hR;have hins:=QJ hR ht (i:=(c.pc.getD t 0).toNat) (by omega);change (Dt u c t).op=22∨(Ct (Dt u c t) _ _ _=true∧_) at hins;have hop:(Dt u c t).op≠22:=fun e=>by
  unfold UR at hen;rw[if_pos e]at hen;cases hen
 obtain⟨hone,hlt⟩:=hins.resolve_left hop;obtain⟨-,-,oloc,otgt⟩:=CX hone;have hP:CN u L {c with pc:=c.pc.set t (c.pc.getD t 0+1)}:=h.setPc ht (by omega) (by omega);have hv:∀l,0≤ES u.mod (c.regs.getD t []) l∧ES u.mod (c.regs.getD t []) l<u.mod:=fun l=>Qj (by omega) (h.reg t ht);have hM:∀l,l<u.init.length→0≤c.mem.getD l 0∧c.mem.getD l 0<u.mod:=fun l hl=>Fm h.mem (by rw[h.nmem];exact hl);unfold Pb;generalize Dt u c t=x at*;dsimp only;split
 ·rename_i e;obtain⟨a,b⟩:=otgt (Vh (.inl e));exact(h.setPc ht a b).more (by omega)
 split
 ·rename_i e;obtain⟨a,b⟩:=otgt (Vh (.inr e));split
  ·exact(h.setPc ht a b).more (by omega)
  ·exact hP.more (by omega)
 split
 ·exact(hP.setReg ht (hv _)).more (by omega)
 split
 ·rename_i e;obtain⟨a,b⟩:=oloc (Ep (.inl e));exact(hP.setReg ht (h.reads ht (by omega))).more (by omega)
 split
 ·rename_i e;obtain⟨a,b⟩:=oloc (Ep (.inr (.inl e)));split
  ·exact(hP.setMem (hv _)).more (by omega)
  ·refine hP.setBuf (by omega) ht ?_ ?_
   ·have:=Wx (c.buf.getD t []) model (x.loc,ES u.mod (c.regs.getD t []) x.e);have:=h.blen t ht;omega
   ·intro y hy;rcases Ww hy with rfl | hy
    ·exact⟨⟨a,b⟩,hv _⟩
    ·exact h.ens t ht y hy
 split
 ·rename_i e;obtain⟨a,b⟩:=oloc (Ep (.inr (.inr (.inl e))));have hm:=hM x.loc.toNat (by omega);split
  ·exact((hP.setReg ht hm).setMem (hv _)).more (by omega)
  ·exact(hP.setReg ht hm).more (by omega)
 split
 ·rename_i e;obtain⟨a,b⟩:=oloc (Ep (.inr (.inr (.inr (.inl e)))));have hm:=hM x.loc.toNat (by omega);have hq:=hv x.e;refine((hP.setReg ht hm).setMem ⟨Int.tmod_nonneg _ (by omega),Int.tmod_lt_of_pos _ (by omega)⟩).more (by omega)
 split
 ·rename_i e;obtain⟨a,b⟩:=oloc (Ep (.inr (.inr (.inr (.inr (.inl e))))));have hm:=hM x.loc.toNat (by omega);exact((hP.setReg ht hm).setMem (hv _)).more (by omega)
 ·exact hP.more (by omega)
theorem PQ(h:CN u L c){model loc:Int}{t:Nat}(ht:t<u.regs.length)(hf:DM c model t loc=true):CN u L (GC c model t loc):=by
 have hat:=Mz (c.buf.getD t []) model loc;unfold DM Es at hf;have h0:0≤DL (c.buf.getD t []) model loc:=of_decide_eq_true hf;unfold GC Es;dsimp only;rw[if_neg (by omega)];have hm:(c.buf.getD t []).getD (DL (c.buf.getD t []) model loc).toNat (0,0)∈c.buf.getD t []:=by
  generalize hb:c.buf.getD t []=b at*;simp[List.getD,show(DL b model loc).toNat<b.length by omega]
 exact(h.setBuf (AQ _) ht (b:=Ib (c.buf.getD t []) (DL (c.buf.getD t []) model loc) (c.buf.getD t []).length) (CP (Ku _ _ _) (h.blen t ht)) (fun y hy=>h.ens t ht y (NM _ (AQ _) hy))).setMem (h.ens t ht _ hm).2
theorem Ux(hR:Bi u=true)(h:CN u L c){model room:Int}{a:Nat}(ha:a<Fx u model)(hen:QT u c model room a=true):CN u (L+1) (Pc u c model a):=by
 unfold QT at hen;unfold Pc;split
 ·rename_i e;rw[if_pos e]at hen;exact aE hR h e hen
 ·rename_i e;rw[if_neg e]at hen;unfold Fx at ha;split
  ·rename_i e2;rw[if_pos e2]at hen;rw[if_neg (by omega),if_pos e2]at ha;exact(PQ h (by omega) hen).more (by omega)
  ·rename_i e2;rw[if_neg e2]at hen;split at ha
   ·omega
   split at ha
   ·refine(PQ h ?_ hen).more (by omega);have hn:0<u.init.length:=by
     rcases Nat.eq_zero_or_pos u.init.length with q | q
     ·rw[q]at ha;omega
     ·exact q
    rw[Nat.div_lt_iff_lt_mul hn];generalize u.regs.length*u.init.length=N at*;omega
   ·omega
end
def Jx(u:DG)(c:Cf)(model room:Int):Nat→List Int
 | 0=>[]
 | k+1=>if QT u c model room k=true then Jx u c model room k++[(k:Int)] else Jx u c model room k
def VF(u:DG)(c:Cf)(model room:Int):List Int:=Jx u c model room (Fx u model)
theorem Kr(u:DG)(c:Cf)(model room:Int):∀k,(Jx u c model room k).length≤k
 | 0=>AQ _
 | k+1=>by
  have:=Kr u c model room k;rw[Jx];split
  ·rw[Bs,List.length_singleton];omega
  ·omega
theorem Fj{u:DG}{c:Cf}{model room:Int}{x:Int}:∀{k:Nat},x∈Jx u c model room k↔∃a:Nat,x=(a:Int)∧a<k∧QT u c model room a=true
 | 0=>by simp[Jx]
 | k+1=>by
  have ih:=Fj (u:=u) (c:=c) (model:=model) (room:=room) (x:=x) (k:=k);rw[Jx];split
  ·rename_i h;rw[CJ,ih,Ds];constructor
   ·rintro(⟨a,e,ha,h2⟩ | rfl)
    ·exact⟨a,e,by omega,h2⟩
    ·exact⟨k,rfl,by omega,h⟩
   ·rintro⟨a,e,ha,h2⟩;by_cases hak:a=k
    ·right;rw[e,hak]
    ·exact .inl ⟨a,e,by omega,h2⟩
  ·rename_i h;rw[ih];constructor
   ·rintro⟨a,e,ha,h2⟩;exact⟨a,e,by omega,h2⟩
   ·rintro⟨a,e,ha,h2⟩;by_cases hak:a=k
    ·rw[hak]at h2;exact absurd h2 h
    ·exact⟨a,e,by omega,h2⟩
theorem YQ(uv cv:Value)(u:DG)(c:Cf)(model room:Int)(w:World)(hu:Ma w uv u)(hc:Ll w cv c)(hR:Bi u=true)(hL:Sn u)(hk:CN u 1000 c):
 Calls Tryz.prog 18 #[uv,cv,.int .i64 model,.int .i64 room] w fun r w'=>∃rv,r=.returned rv∧AW w.heap.size w' rv (VF u c model room)∧Below w.heap.size w w':=by
 obtain⟨i0,hi0,hz0,hz1,hz2⟩:=CE Tryz.info3;have hag:=Ix hR model;have HA:=Aa (fun(w':World) (hb:Below w.heap.size w w')=>Js uv u model w' (hu.below hb) hR hL);have HE:=Aa (fun(w':World) (hb:Below w.heap.size w w') (a:Nat) (ha:a<Fx u model)=>Ui uv cv u c model room a w' (hu.below hb) (hc.below hb) hR hL hk ha);obtain⟨ia,ic,ga,gc,ca,cc,rfl,-⟩:=hu.var;obtain⟨pa,pc,ra,rc,ma,mc,ba,bc,rfl,-⟩:=hc.var;have S0:=Aa (OT.start w #[.int .i64 u.mod,.slice ia u.init.length ic,.slice ga u.regs.length gc,.slice ca u.code.length cc] 25 #[.slice pa c.pc.length pc,.slice ra c.regs.length rc,.slice ma c.mem.length mc,.slice ba c.buf.length bc] 62);have HS:Hid (∀k,Jx u c model room (k+1)=if QT u c model room k=true then Jx u c model room k++[(k:Int)] else Jx u c model room k):=Aa (fun k=>rfl);have HZ:Hid (Jx u c model room 0=[]):=Aa rfl;have HLN:=Aa (Kr u c model room);unfold VF;clear hu hc hk hL hR;generalize hw2:(w.alloc (.cells #[.int .i64 u.mod,.slice ia u.init.length ic,.slice ga u.regs.length gc,.slice ca u.code.length cc] 25)).alloc (.cells #[.slice pa c.pc.length pc,.slice ra c.regs.length rc,.slice ma c.mem.length mc,.slice ba c.buf.length bc] 62)=w2 at*;generalize Jx u c model room=MK at*;generalize QT u c model room=EA at*;generalize Fx u model=ag at*;go_enter Tryz.func18,Tryz.ntmps18;go_wp2_with fail
 clear hw2;go_loopg [9,10] ag (fun fu ov q wr=>∃k:Nat,k+fu=ag∧q=.int .i64 k∧Hid (AW w2.heap.size wr ov (MK k))∧Hid (Below w2.heap.size w2 wr))
 case atStart=>exact⟨0,by omega,rfl,Aa (by rw[HZ.out];exact AW.nil _ _),Aa (Ak _ _)⟩
 case round=>
  obtain⟨k,hk,rfl,HO,HB⟩:=hrel;obtain⟨oa,oc,rfl⟩:=Bp HO.out;have hol:=HLN.out k;have S:=Aa (S0.out.more HB.out);obtain⟨i0',i1,i2,i3⟩:=BX S.out.blk1;by_cases hlt:k<ag
  ·have z1:(k:Int)<(ag:Int):=by omega
   have hs:=HS.out k;have HEK:=Aa (fun(w':World) (hb:Below w.heap.size w w')=>HE.out w' hb k hlt);clear HE HS HZ HLN;cases he:EA k
   ·rw[he]at HEK;rw[he,if_neg (by simp)]at hs;have E:=Aa hs;clear hs he;go_wp2_with (first
     | (go_at_call 21;refine(HEK.out _ S1.out.below).mono ?_;rintro e2 w4 ⟨rfl,hb2⟩;have HB4:=Aa (HB3.out.trans (hb2.mono HB3.out.size));have HO4:=Aa (HO3.out.more hb2);clear hb2)
     | (go_at_call 8;refine(HA.out _ S.out.below).mono ?_;rintro e1 w3 ⟨rfl,hb1⟩;have S1:=Aa (S.out.more hb1);have HB3:=Aa (HB.out.trans (hb1.mono HB.out.size));have HO3:=Aa (HO.out.more hb1);clear hb1 i0' i1 i2 i3;obtain⟨i0',i1,i2,i3⟩:=BX S1.out.blk1;obtain⟨l0,l1,l2,l3⟩:=BX S1.out.blk2))
    go_roundg (ag - (k+1))
    case measure=>omega
    case rel=>exact⟨k+1,by omega,by simp,Aa (by rw[E.out];exact HO4.out),HB4⟩
   ·rw[he]at HEK;rw[he,if_pos rfl]at hs;have E:=Aa hs;clear hs he;generalize MK k=mk at*;go_wp2_with (first
     | (at_builtin;refine wpList_append_lies (w4.alloc (.cells #[.int .i64 (k:Nat)] 3)) rfl (.tmp 24) (.tmp 26) 22 rfl w2.heap.size 3 i0 (.int .i64 0) 1 8 Tryz.underlying22 hi0 hz0 hz1 hz2 rfl (by decide) (.slice oa mk.length oc) mk.length _ rfl (World.ownsRow.alloc HO4.out _) ⟨w4.heap.size,0,none⟩ 1 1 [.int .i64 (k:Nat)] rfl rfl (World.news_of_block (Ar _ _)) (by simp[Value.oneCell']) (by omega) (by unfold maxLen;omega) (by omega) (by have:=HB4.out.size;simp;omega) (w4.heap.size+1) (by simp) ?_;intro g5 cap5 w5 hown5 hgr5 hor5 hlt5;have HO5:=Aa hown5;have HB5:=Aa (CA HB4.out HO4.out hgr5);clear hown5 hgr5 hor5)
     | (go_at_call 21;refine(HEK.out _ S1.out.below).mono ?_;rintro e2 w4 ⟨rfl,hb2⟩;have HB4:=Aa (HB3.out.trans (hb2.mono HB3.out.size));have HO4:=Aa (HO3.out.more hb2);clear hb2)
     | (go_at_call 8;refine(HA.out _ S.out.below).mono ?_;rintro e1 w3 ⟨rfl,hb1⟩;have S1:=Aa (S.out.more hb1);have HB3:=Aa (HB.out.trans (hb1.mono HB.out.size));have HO3:=Aa (HO.out.more hb1);clear hb1 i0' i1 i2 i3;obtain⟨i0',i1,i2,i3⟩:=BX S1.out.blk1;obtain⟨l0,l1,l2,l3⟩:=BX S1.out.blk2))
    go_roundg (ag - (k+1))
    case measure=>omega
    case rel=>exact⟨k+1,by omega,by simp,Aa (by rw[E.out];unfold AW;rw[Bs,Ec];exact HO5.out),HB5⟩
  ·have hkk:k=ag:=by omega
   subst hkk;clear HE HS HZ HLN;go_wp2_with (go_at_call 8;refine(HA.out _ S.out.below).mono ?_;rintro e1 w3 ⟨rfl,hb1⟩;have S1:=Aa (S.out.more hb1);have HO3:=Aa (HO.out.more hb1);clear hb1)
   go_ret;exact⟨_,rfl,CI HO3.out S0.out.below.size,S1.out.below⟩
theorem UT:(Tryz.prog.info? 22).map (fun i=>(i.zero,i.size,i.bytes))=some (some (.slice none 0 0),1,24):=by kernel_rfl
theorem Uw:(Tryz.prog.info? 102).map (fun i=>(i.zero,i.size,i.bytes))=some (some (.slice none 0 0),1,24):=by kernel_rfl
structure Di(base:Nat)(w:World)(v:Value)(rows:List (List Int))(vals:List Value):Prop where
 len:vals.length=rows.length
 out:w.ownsRow base 22 1 v rows.length vals
 inn:∀j,j<rows.length→AW base w (vals.getD j undef) (rows.getD j [])
structure Ek(base:Nat)(w:World)(v:Value)(rows:List (List En))(vals:List Value):Prop where
 len:vals.length=rows.length
 out:w.ownsRow base 102 1 v rows.length vals
 inn:∀j,j<rows.length→Cb base w (vals.getD j undef) (rows.getD j [])
def AP(a b:Value):Prop:=∀q,a.ownBlock=some q→b.ownBlock≠some q
theorem AP.symm{a b:Value}(h:AP a b):AP b a:=fun q h1 h2=>h q h2 h1
theorem AP.fresh{a b:Value}{N:Nat}(ha:∀q,a.ownBlock=some q→q<N)(hb:∀q,b.ownBlock=some q→N≤q):AP a b:=fun q h1 h2=>by have:=ha q h1;have:=hb q h2;omega
theorem FI{V U:List Value}{v v':Value}{N:Nat}(h:(V++v::U).Pairwise AP)(hN:∀x∈V++U,∀q,x.ownBlock=some q→q<N)(hv:∀q,v'.ownBlock=some q→v.ownBlock=some q∨N≤q):(V++v'::U).Pairwise AP:=by
 rw[List.pairwise_append,BG]at h ⊢;obtain⟨h1,⟨h2,h3⟩,h4⟩:=h;refine⟨h1,⟨fun x hx q e1 e2=>?_,h3⟩,fun x hx y hy=>?_⟩
 ·rcases hv q e1 with e | e
  ·exact h2 x hx q e e2
  ·have:=hN x (List.mem_append_right _ hx) q e2;omega
 ·rcases Br.1 hy with rfl | hy
  ·intro q e1 e2;rcases hv q e2 with e | e
   ·exact h4 x hx v (List.mem_cons_self ..) q e1 e
   ·have:=hN x (List.mem_append_left _ hx) q e1;omega
  ·exact h4 x hx y (List.mem_cons_of_mem _ hy)
theorem Oj{V U:List Value}{v:Value}{N:Nat}(h:(V++U).Pairwise AP)(hN:∀x∈V++U,∀q,x.ownBlock=some q→q<N)(hv:∀q,v.ownBlock=some q→N≤q):(V++v::U).Pairwise AP:=by
 rw[List.pairwise_append]at h ⊢;rw[BG];obtain⟨h1,h3,h4⟩:=h;refine⟨h1,⟨fun x hx=>(AP.fresh (hN x (List.mem_append_right _ hx)) hv).symm,h3⟩,fun x hx y hy=>?_⟩;rcases Br.1 hy with rfl | hy
 ·exact AP.fresh (hN x (List.mem_append_left _ hx)) hv
 ·exact h4 x hx y hy
structure BB(base:Nat)(w:World)(vp vr vm vb:Value)(rv bv:List Value)(c:Cf):Prop where
 pc:AW base w vp c.pc
 regs:Di base w vr c.regs rv
 mem:AW base w vm c.mem
 buf:Ek base w vb c.buf bv
 apart:(vp::vr::vm::vb::(rv++bv)).Pairwise AP
theorem Di.rows{base:Nat}{w:World}{v:Value}{rows:List (List Int)}{vals:List Value}(h:Di base w v rows vals):Ih w v rows:=by
 obtain⟨a,cp,rfl⟩:=Bp h.out;refine⟨a,cp,rfl,fun j hj=>?_⟩;obtain⟨g,cap,e,-,-⟩:=World.ownsRow.form h.out (by omega);cases e;refine⟨g,0,vals.getD j undef,rfl,?_,(h.inn j hj).ints⟩;have:=World.ownsRow.cellAt h.out j (by omega);have hl:=h.len;rw[Nat.zero_add,this,AM,Bf (by omega)]
 rfl
theorem Ek.rows{base:Nat}{w:World}{v:Value}{rows:List (List En)}{vals:List Value}(h:Ek base w v rows vals):Lc w v rows:=by
 obtain⟨a,cp,rfl⟩:=Bp h.out;refine⟨a,cp,rfl,fun j hj=>?_⟩;obtain⟨g,cap,e,-,-⟩:=World.ownsRow.form h.out (by omega);cases e;refine⟨g,0,vals.getD j undef,rfl,?_,(h.inn j hj).ens⟩;have:=World.ownsRow.cellAt h.out j (by omega);have hl:=h.len;rw[Nat.zero_add,this,AM,Bf (by omega)]
 rfl
theorem BB.cf{base:Nat}{w:World}{vp vr vm vb:Value}{rv bv:List Value}{c:Cf}(h:BB base w vp vr vm vb rv bv c):Ll w (.agg #[vp,vr,vm,vb]) c:=
 ⟨vp,vr,vm,vb,rfl,h.pc.ints,h.regs.rows,h.mem.ints,h.buf.rows⟩
theorem BB.more{base:Nat}{w w':World}{vp vr vm vb:Value}{rv bv:List Value}{c:Cf}(h:BB base w vp vr vm vb rv bv c)(hb:Below w.heap.size w w'):BB base w' vp vr vm vb rv bv c:=
 ⟨h.pc.more hb,⟨h.regs.len,Nk h.regs.out hb,fun j hj=>(h.regs.inn j hj).more hb⟩,h.mem.more hb,⟨h.buf.len,Nk h.buf.out hb,fun j hj=>(h.buf.inn j hj).more hb⟩,h.apart⟩
structure dQ(c:Cf):Prop where
 pc:c.pc.length≤1000
 mem:c.mem.length≤1000
 regs:c.regs.length≤1000
 buf:c.buf.length≤1000
 rows:∀k,k<c.regs.length→(c.regs.getD k []).length≤1000
 bufs:∀k,k<c.buf.length→(c.buf.getD k []).length≤1000
structure Om(w wr:World)(cc:Array Value)(d0 d1 d2 d3:Value):Prop where
 low:Below w.heap.size w wr
 bc:wr.heap[w.heap.size]?=some (.cells cc 62 (0,0))
 br:wr.heap[w.heap.size+1]?=some (.cells #[.slice none 0 0,.slice none 0 0,.slice none 0 0,.slice none 0 0] 62 (0,0))
 bd:wr.heap[w.heap.size+1+1]?=some (.cells #[d0,d1,d2,d3] 62 (0,0))
section
variable {w wr w':World} {cc:Array Value} {d0 d1 d2 d3:Value}
theorem Om.size(h:Om w wr cc d0 d1 d2 d3):w.heap.size+3≤wr.heap.size:=by have:=(BO.1 h.bd).1;omega
theorem Om.alloc(h:Om w wr cc d0 d1 d2 d3)(o:Obj):Om w (wr.alloc o) cc d0 d1 d2 d3:=
 ⟨h.low.trans ((Ae wr o).mono h.low.size),Ah (Ae wr o) h.bc,Ah (Ae wr o) h.br,Ah (Ae wr o) h.bd⟩
theorem Om.grown(h:Om w wr cc d0 d1 d2 d3){r:Option Nat}(hg:wr.grownBy w' r)(hr:∀k,r=some k→w.heap.size+3≤k):Om w w' cc d0 d1 d2 d3:=by
 have hs:=h.size;refine⟨h.low.grown hg h.low.size (fun k hk=>by have:=hr k hk;omega),?_,?_,?_⟩
 ·rw[hg.block _ (by omega) (fun e=>by have:=hr _ e.symm;omega)];exact h.bc
 ·rw[hg.block _ (by omega) (fun e=>by have:=hr _ e.symm;omega)];exact h.br
 ·rw[hg.block _ (by omega) (fun e=>by have:=hr _ e.symm;omega)];exact h.bd
theorem Au{w:World}{b i k:Nat}(h:k≠b)(v:Value):(w.setCell ⟨b,i,none⟩ v).heap[k]?=w.heap[k]?:=Below.heap_setCell w _ v k h
theorem Om.put0(h:Om w wr cc d0 d1 d2 d3)(v:Value):Om w (wr.setCell ⟨w.heap.size+1+1,0,none⟩ v) cc v d1 d2 d3:=
 ⟨h.low.setCell (p:=⟨w.heap.size+1+1,0,none⟩) (by show w.heap.size≤w.heap.size+1+1;omega) v,by rw[Au (by omega)];exact h.bc,by rw[Au (by omega)];exact h.br,Ac h.bd 0 v⟩
theorem Om.put1(h:Om w wr cc d0 d1 d2 d3)(v:Value):Om w (wr.setCell ⟨w.heap.size+1+1,1,none⟩ v) cc d0 v d2 d3:=
 ⟨h.low.setCell (p:=⟨w.heap.size+1+1,1,none⟩) (by show w.heap.size≤w.heap.size+1+1;omega) v,by rw[Au (by omega)];exact h.bc,by rw[Au (by omega)];exact h.br,Ac h.bd 1 v⟩
theorem Om.put2(h:Om w wr cc d0 d1 d2 d3)(v:Value):Om w (wr.setCell ⟨w.heap.size+1+1,2,none⟩ v) cc d0 d1 v d3:=
 ⟨h.low.setCell (p:=⟨w.heap.size+1+1,2,none⟩) (by show w.heap.size≤w.heap.size+1+1;omega) v,by rw[Au (by omega)];exact h.bc,by rw[Au (by omega)];exact h.br,Ac h.bd 2 v⟩
theorem Om.put3(h:Om w wr cc d0 d1 d2 d3)(v:Value):Om w (wr.setCell ⟨w.heap.size+1+1,3,none⟩ v) cc d0 d1 d2 v:=
 ⟨h.low.setCell (p:=⟨w.heap.size+1+1,3,none⟩) (by show w.heap.size≤w.heap.size+1+1;omega) v,by rw[Au (by omega)];exact h.bc,by rw[Au (by omega)];exact h.br,Ac h.bd 3 v⟩
end
theorem Hc(v:Value):v.ownBlock=none∨v.ownBlock≠none:=by cases v.ownBlock <;> simp
theorem AW.kept2{base:Nat}{w w':World}{v:Value}{l:List Int}{o:Obj}{u:Value}(h:AW base w v l)(hg:(w.alloc o).grownBy w' u.ownBlock)(ha:AP v u):AW base w' v l:=
 World.ownsRow.kept (World.ownsRow.alloc h o) hg (by
  cases hv:v.ownBlock with
  | none=>exact .inl rfl
  | some q=>exact .inr (fun e=>ha q hv e.symm))
theorem AW.kept0{base:Nat}{w w':World}{v:Value}{l:List Int}(h:AW base w v l)(hg:w.grownBy w' none):AW base w' v l:=World.ownsRow.kept h hg (Hc _)
theorem AW.setlow{base:Nat}{w:World}{v:Value}{l:List Int}(h:AW base w v l){b i:Nat}(hb:b<base)(x:Value):AW base (w.setCell ⟨b,i,none⟩ x) v l:=Fh h hb x
theorem Di.kept0{base:Nat}{w w':World}{v:Value}{rows:List (List Int)}{vals:List Value}(h:Di base w v rows vals)(hg:w.grownBy w' none):Di base w' v rows vals:=
 ⟨h.len,World.ownsRow.kept h.out hg (Hc _),fun j hj=>(h.inn j hj).kept0 hg⟩
theorem Di.setlow{base:Nat}{w:World}{v:Value}{rows:List (List Int)}{vals:List Value}(h:Di base w v rows vals){b i:Nat}(hb:b<base)(x:Value):Di base (w.setCell ⟨b,i,none⟩ x) v rows vals:=
 ⟨h.len,Fh h.out hb x,fun j hj=>(h.inn j hj).setlow hb x⟩
theorem Di.push{base:Nat}{w w':World}{v v' r:Value}{rows:List (List Int)}{vals:List Value}{row:List Int}{o:Obj}(h:Di base w v rows vals)(hr:AW base w r row)(hg:(w.alloc o).grownBy w' v.ownBlock)(hout:w'.ownsRow base 22 1 v' (rows.length+1) (vals++[r]))(hap:∀j,j<rows.length→AP (vals.getD j undef) v)(hr2:AP r v):Di base w' v' (rows++[row]) (vals++[r]):=by
 have hl:=h.len;refine⟨by simp[hl],by rw[Bs];exact hout,fun j hj=>?_⟩;rw[Bs,List.length_singleton]at hj;by_cases e:j<rows.length
 ·rw[AM,List.getElem?_append_left (by omega),← AM,AM (l:=rows++[row]),List.getElem?_append_left e,← AM];exact(h.inn j e).kept2 hg (hap j e)
 ·obtain rfl:j=rows.length:=by omega
  rw[AM,List.getElem?_append_right (by omega),AM (l:=rows++[row]),List.getElem?_append_right (AQ _)];simp only[hl,Nat.sub_self];exact hr.kept2 hg hr2
theorem Di.kept2{base:Nat}{w w':World}{v:Value}{rows:List (List Int)}{vals:List Value}{o:Obj}{u:Value}(h:Di base w v rows vals)(hg:(w.alloc o).grownBy w' u.ownBlock)(ha:AP v u)(hi:∀x∈vals,AP x u):Di base w' v rows vals:=
 ⟨h.len,World.ownsRow.kept (World.ownsRow.alloc h.out o) hg (by
  cases hv:v.ownBlock with
  | none=>exact .inl rfl
  | some q=>exact .inr (fun e=>ha q hv e.symm)),fun j hj=>(h.inn j hj).kept2 hg (hi _ (by simp[List.getD,show j<vals.length by have:=h.len;omega]))⟩
theorem Cb.kept2{base:Nat}{w w':World}{v:Value}{l:List En}{o:Obj}{u:Value}(h:Cb base w v l)(hg:(w.alloc o).grownBy w' u.ownBlock)(ha:AP v u):Cb base w' v l:=
 World.ownsRow.kept (World.ownsRow.alloc h o) hg (by
  cases hv:v.ownBlock with
  | none=>exact .inl rfl
  | some q=>exact .inr (fun e=>ha q hv e.symm))
theorem Cb.kept0{base:Nat}{w w':World}{v:Value}{l:List En}(h:Cb base w v l)(hg:w.grownBy w' none):Cb base w' v l:=World.ownsRow.kept h hg (Hc _)
theorem Cb.setlow{base:Nat}{w:World}{v:Value}{l:List En}(h:Cb base w v l){b i:Nat}(hb:b<base)(x:Value):Cb base (w.setCell ⟨b,i,none⟩ x) v l:=Fh h hb x
theorem Ek.kept0{base:Nat}{w w':World}{v:Value}{rows:List (List En)}{vals:List Value}(h:Ek base w v rows vals)(hg:w.grownBy w' none):Ek base w' v rows vals:=
 ⟨h.len,World.ownsRow.kept h.out hg (Hc _),fun j hj=>(h.inn j hj).kept0 hg⟩
theorem Ek.setlow{base:Nat}{w:World}{v:Value}{rows:List (List En)}{vals:List Value}(h:Ek base w v rows vals){b i:Nat}(hb:b<base)(x:Value):Ek base (w.setCell ⟨b,i,none⟩ x) v rows vals:=
 ⟨h.len,Fh h.out hb x,fun j hj=>(h.inn j hj).setlow hb x⟩
theorem Ek.push{base:Nat}{w w':World}{v v' r:Value}{rows:List (List En)}{vals:List Value}{row:List En}{o:Obj}(h:Ek base w v rows vals)(hr:Cb base w r row)(hg:(w.alloc o).grownBy w' v.ownBlock)(hout:w'.ownsRow base 102 1 v' (rows.length+1) (vals++[r]))(hap:∀j,j<rows.length→AP (vals.getD j undef) v)(hr2:AP r v):Ek base w' v' (rows++[row]) (vals++[r]):=by
 have hl:=h.len;refine⟨by simp[hl],by rw[Bs];exact hout,fun j hj=>?_⟩;rw[Bs,List.length_singleton]at hj;by_cases e:j<rows.length
 ·rw[AM,List.getElem?_append_left (by omega),← AM,AM (l:=rows++[row]),List.getElem?_append_left e,← AM];exact(h.inn j e).kept2 hg (hap j e)
 ·obtain rfl:j=rows.length:=by omega
  rw[AM,List.getElem?_append_right (by omega),AM (l:=rows++[row]),List.getElem?_append_right (AQ _)];simp only[hl,Nat.sub_self];exact hr.kept2 hg hr2
theorem Di.lts{base:Nat}{w:World}{v:Value}{rows:List (List Int)}{vals:List Value}(h:Di base w v rows vals):∀x∈vals,∀q,x.ownBlock=some q→q<w.heap.size:=fun x hx q e=>by
 obtain⟨j,hj,rfl⟩:=Ey hx;have:=h.inn j (by rw[← h.len];exact hj);rw[AM,Bf hj]at this;exact(World.ownsRow.lt this q e).2
theorem Ek.lts{base:Nat}{w:World}{v:Value}{rows:List (List En)}{vals:List Value}(h:Ek base w v rows vals):∀x∈vals,∀q,x.ownBlock=some q→q<w.heap.size:=fun x hx q e=>by
 obtain⟨j,hj,rfl⟩:=Ey hx;have:=h.inn j (by rw[← h.len];exact hj);rw[AM,Bf hj]at this;exact(World.ownsRow.lt this q e).2
theorem BB.setlow{base:Nat}{w:World}{vp vr vm vb:Value}{rv bv:List Value}{c:Cf}(h:BB base w vp vr vm vb rv bv c){b i:Nat}(hb:b<base)(x:Value):BB base (w.setCell ⟨b,i,none⟩ x) vp vr vm vb rv bv c:=
 ⟨h.pc.setlow hb x,h.regs.setlow hb x,h.mem.setlow hb x,h.buf.setlow hb x,h.apart⟩
theorem BB.low{base base':Nat}{w:World}{vp vr vm vb:Value}{rv bv:List Value}{c:Cf}(h:BB base w vp vr vm vb rv bv c)(hb:base'≤base):BB base' w vp vr vm vb rv bv c:=
 ⟨CI h.pc hb,⟨h.regs.len,CI h.regs.out hb,fun j hj=>CI (h.regs.inn j hj) hb⟩,CI h.mem hb,⟨h.buf.len,CI h.buf.out hb,fun j hj=>CI (h.buf.inn j hj) hb⟩,h.apart⟩
theorem QL(cv:Value)(c:Cf)(w:World)(hc:Ll w cv c)(hl:dQ c):
 Calls Tryz.prog 33 #[cv] w fun r w'=>∃vp vr vm vb rv bv,r=.returned (.agg #[vp,vr,vm,vb])∧BB w.heap.size w' vp vr vm vb rv bv c∧Below w.heap.size w w':=by
 obtain⟨i0,hi0,hz0,hz1,hz2⟩:=CE Tryz.info3;obtain⟨i2,hi2,hy0,hy1,hy2⟩:=CE UT;obtain⟨i3,hi3,hx0,hx1,hx2⟩:=CE Tryz.info107;obtain⟨i4,hi4,hv0,hv1,hv2⟩:=CE Uw;obtain⟨pa,pac,ra,rac,ma,mac,ba,bac,rfl,hp,hr,hm,hb⟩:=hc.var;have l1:=hl.pc;have l2:=hl.mem;have l3:=hl.regs;have l4:=hl.buf;have HL5:=Aa hl.rows;have HL6:=Aa hl.bufs;have C0:Hid (Om w (((w.alloc (.cells #[.slice pa c.pc.length pac,.slice ra c.regs.length rac,.slice ma c.mem.length mac,.slice ba c.buf.length bac] 62)).alloc (.cells #[.slice none 0 0,.slice none 0 0,.slice none 0 0,.slice none 0 0] 62)).alloc (.cells #[.slice none 0 0,.slice none 0 0,.slice none 0 0,.slice none 0 0] 62)) #[.slice pa c.pc.length pac,.slice ra c.regs.length rac,.slice ma c.mem.length mac,.slice ba c.buf.length bac] (.slice none 0 0) (.slice none 0 0) (.slice none 0 0) (.slice none 0 0)):=Aa ⟨(Ae w _).trans (((Ae _ _).mono (Ae w _).size).trans ((Ae _ _).mono (CP (Ae w _).size (Ae _ _).size))),Ah (Ae _ _) (Ah (Ae _ _) (Ar w _)),by
  have:=Ar (w.alloc (.cells #[.slice pa c.pc.length pac,.slice ra c.regs.length rac,.slice ma c.mem.length mac,.slice ba c.buf.length bac] 62)) (.cells #[.slice none 0 0,.slice none 0 0,.slice none 0 0,.slice none 0 0] 62);have:=Ah (Ae _ (.cells #[.slice none 0 0,.slice none 0 0,.slice none 0 0,.slice none 0 0] 62)) this;simpa using this,by
  have:=Ar ((w.alloc (.cells #[.slice pa c.pc.length pac,.slice ra c.regs.length rac,.slice ma c.mem.length mac,.slice ba c.buf.length bac] 62)).alloc (.cells #[.slice none 0 0,.slice none 0 0,.slice none 0 0,.slice none 0 0] 62)) (.cells #[.slice none 0 0,.slice none 0 0,.slice none 0 0,.slice none 0 0] 62);simpa using this⟩
 have HP:=Aa ((hp.below C0.out.low).src);have HR:=Aa hr;have HM:=Aa hm;have HBF:=Aa hb;clear hc hl hp hr hm hb;go_enter Tryz.func33,Tryz.ntmps33;go_wp2_with (first
  | (at_builtin;refine Hi rfl (.tmp 16) (.tmp 18) rfl Tryz.underlying22 hi0 hz0 hz1 hz2 rfl (by decide) (w.heap.size+3) rfl rfl HM4.out (by omega) (by omega) C2.out.size ?_;intro ad6 cap6 w6 hown6 hgr6 hor6;have OM6:=Aa (show AW (w.heap.size+3) w6 (.slice ad6 c.mem.length cap6) c.mem from hown6);have OP6:=Aa (show AW (w.heap.size+3) w6 (.slice ad4 c.pc.length cap4) c.pc from World.ownsRow.kept OP5.out hgr6 (Hc _));have HAP:=Aa (show AP (.slice ad4 c.pc.length cap4) (.slice ad6 c.mem.length cap6) from AP.fresh (fun q h=>(World.ownsRow.lt OP5.out q h).2) (fun q h=>Nat.le_of_eq (hor6 q h).symm));have C6:=Aa (C2.out.grown hgr6 (fun k hk=>by cases hk));clear hown6 hgr6 a1 a2 a3 d0 d1 d2 d3 f0 f1 f2 f3;have d2:=Ab C6.out.bd 2 _ rfl;have f2:=Ag C6.out.bd 2)
  | (at_builtin;refine Hi rfl (.tmp 10) (.tmp 12) rfl Tryz.underlying22 hi0 hz0 hz1 hz2 rfl (by decide) (w.heap.size+3) rfl rfl HP.out (by omega) (by omega) C0.out.size ?_;intro ad4 cap4 w4 hown4 hgr4 hor4;have OP4:=Aa (show AW (w.heap.size+3) w4 (.slice ad4 c.pc.length cap4) c.pc from hown4);have C1:=Aa (C0.out.grown hgr4 (fun k hk=>by cases hk));have C2:=Aa (C1.out.put0 (.slice ad4 c.pc.length cap4));have OP5:=Aa (show AW (w.heap.size+3) (w4.setCell ⟨w.heap.size+1+1,0,none⟩ (.slice ad4 c.pc.length cap4)) (.slice ad4 c.pc.length cap4) c.pc from Fh OP4.out (by show w.heap.size+1+1<w.heap.size+3;omega) _);have HM4:=Aa ((HM.out.below C2.out.low).src);clear hown4 hgr4;have d0:=Ab C1.out.bd 0 _ rfl;have f0:=Ag C1.out.bd 0;obtain⟨-,a1,a2,a3⟩:=BX C2.out.bc;obtain⟨-,d1,d2,d3⟩:=BX C2.out.bd;obtain⟨-,f1,f2,f3⟩:=Nx C2.out.bd))
 have C7:=Aa (C6.out.put2 (.slice ad6 c.mem.length cap6));have OP7:=Aa (OP6.out.setlow (b:=w.heap.size+1+1) (i:=2) (by omega) (.slice ad6 c.mem.length cap6));have OM7:=Aa (OM6.out.setlow (b:=w.heap.size+1+1) (i:=2) (by omega) (.slice ad6 c.mem.length cap6));clear d2 f2 C0 C1 C2 C6 OP4 OP5 OP6 OM6 HM4 hor4 hor6 HP HM;generalize w6.setCell ⟨w.heap.size+1+1,2,none⟩ (.slice ad6 c.mem.length cap6)=w7 at*;generalize Value.slice ad4 c.pc.length cap4=vp at*;generalize Value.slice ad6 c.mem.length cap6=vm at*;go_loopg [4] c.regs.length (fun fu q wr=>∃(k:Nat) (rv:List Value) (vr:Value),k+fu=c.regs.length∧q=.int .i64 k∧Hid (Om w wr #[.slice pa c.pc.length pac,.slice ra c.regs.length rac,.slice ma c.mem.length mac,.slice ba c.buf.length bac] vp vr vm (.slice none 0 0))∧Hid (AW (w.heap.size+3) wr vp c.pc)∧Hid (AW (w.heap.size+3) wr vm c.mem)∧Hid (Di (w.heap.size+3) wr vr (c.regs.take k) rv)∧Hid ((vp::vr::vm::rv).Pairwise AP))
 case atStart=>exact⟨0,[],.slice none 0 0,by omega,rfl,C7,OP7,OM7,Aa ⟨rfl,CO _ _ _ _,fun j hj=>by simp at hj⟩,Aa (by
  have hn:∀v,AP v (.slice none 0 0):=fun v q h1 h2=>by cases h2
  refine BG.2 ⟨fun x hx=>?_,BG.2 ⟨fun x hx=>?_,BG.2 ⟨fun x hx=>(by cases hx),List.Pairwise.nil⟩⟩⟩
  ·rcases Br.1 hx with rfl | hx
   ·exact hn _
   ·rw[Ds.1 hx];exact HAP.out
  ·exact(hn _).symm)⟩
 case round=>
  clear C7 OP7 OM7 HAP;obtain⟨k,rv,vr,hk,rfl,C,OP,OM,OR,PW⟩:=hrel;have a1:=Ab C.out.bc 1 (.slice ra c.regs.length rac) rfl;by_cases hlt:k<c.regs.length
  ·have z1:(k:Int)<(c.regs.length:Int):=by omega
   obtain⟨t1,t2,t3,hrow⟩:=HR.out;cases t3;obtain⟨b1,o1,u1,rfl,x1,hin⟩:=hrow k hlt;have x1:=Af C.out.low x1;have hsr:=HL5.out k hlt;have HSR:=Aa ((hin.below C.out.low).src);have htk:c.regs.take (k+1)=c.regs.take k++[c.regs.getD k []]:=by
    rw[List.take_add_one,Bf hlt,AM,Bf hlt];rfl
   have hlk:(c.regs.take k).length=k:=by rw[List.length_take];omega
   have HTK:=Aa htk;have HLK:=Aa hlk;obtain⟨ua,uc,rfl,-⟩:=hin;clear hrow htk;generalize c.regs.getD k []=row at*;obtain⟨vra,vrc,hvr⟩:=Bp OR.out.out;rw[hlk]at hvr;subst hvr;have hol:k≤1000:=by omega
   go_wp2_with (first
    | (at_builtin;refine wpList_append_lies (w5.alloc (.cells #[.slice ad5 row.length cap5] 22)) rfl (.tmp 36) (.tmp 38) 59 rfl (w.heap.size+3) 22 i2 (.slice none 0 0) 1 24 Tryz.underlying59 hi2 hy0 hy1 hy2 rfl (by decide) (.slice vra k vrc) k rv rfl (World.ownsRow.alloc (by have:=OR5.out.out;rw[HLK.out]at this;exact this) _) ⟨w5.heap.size,0,none⟩ 1 1 [.slice ad5 row.length cap5] rfl rfl (World.news_of_block (Ar _ _)) (by simp[Value.oneCell']) (by omega) (by unfold maxLen;omega) (by omega) (by have:=C5.out.size;simp;omega) (w5.heap.size+1) (by simp) ?_;intro g8 cap8 w8 hown8 hgr8 hor8 hlt8;have HO8:=Aa hown8;have HG8:=Aa hgr8;have HR8:=Aa hor8;have C8:=Aa ((C5.out.alloc (.cells #[.slice ad5 row.length cap5] 22)).grown hgr8 (fun q hq=>(OR5.out.out.lt q hq).1));clear hgr8 hown8 hor8 a1 d1 f1;have d1:=Ab C8.out.bd 1 _ rfl;have f1:=Ag C8.out.bd 1)
    | (at_builtin;refine Hi rfl (.tmp 28) (.tmp 33) rfl Tryz.underlying22 hi0 hz0 hz1 hz2 rfl (by decide) (w.heap.size+3) rfl rfl HSR.out (by omega) (by omega) C.out.size ?_;intro ad5 cap5 w5 hown5 hgr5 hor5;have O5:=Aa (show AW (w.heap.size+3) w5 (.slice ad5 row.length cap5) row from hown5);have HR5:=Aa hor5;have HZ5:=Aa hgr5.size;have C5:=Aa (C.out.grown hgr5 (fun q hq=>by cases hq));have OP5:=Aa (OP.out.kept0 hgr5);have OM5:=Aa (OM.out.kept0 hgr5);have OR5:=Aa (OR.out.kept0 hgr5);clear hown5 hgr5 hor5 a1;have a1:=Ab C5.out.bc 1 _ rfl;have d1:=Ab C5.out.bd 1 _ rfl;have f1:=Ag C5.out.bd 1))
   go_roundg (c.regs.length - (k+1))
   case measure=>omega
   case rel=>
    obtain⟨p1,p2⟩:=BG.1 PW.out;obtain⟨p3,p4⟩:=BG.1 p2;have hB:w.heap.size+1+1<w.heap.size+3:=by omega
    have apv:AP vp (.slice vra k vrc):=p1 _ (List.mem_cons_self ..);have amv:AP vm (.slice vra k vrc):=(p3 _ (List.mem_cons_self ..)).symm;have hrl:rv.length=k:=by have:=OR.out.len;rw[HLK.out]at this;exact this
    have arv:∀x∈rv,AP x (.slice vra k vrc):=fun x hx=>(p3 x (List.mem_cons_of_mem _ hx)).symm;have ltv:∀q,Value.ownBlock (.slice vra k vrc)=some q→q<wr.heap.size:=fun q h=>(OR.out.out.lt q h).2;have ltr:∀x∈rv,∀q,x.ownBlock=some q→q<wr.heap.size:=fun x hx q h=>by
     obtain⟨j,hj,rfl⟩:=Ey hx;have:=OR.out.inn j (by rw[HLK.out];omega);rw[AM,Bf hj]at this;exact(World.ownsRow.lt this q h).2
    have ar5:AP (.slice ad5 row.length cap5) (.slice vra k vrc):=(AP.fresh ltv (fun q h=>Nat.le_of_eq (HR5.out q h).symm)).symm;have PN:=Oj (V:=vp::.slice vra k vrc::vm::rv) (U:=[]) (v:=.slice ad5 row.length cap5) (N:=wr.heap.size) (by rw[List.append_nil];exact PW.out) (fun x hx q h=>by
     rw[List.append_nil]at hx;rcases Br.1 hx with rfl | hx
     ·exact(World.ownsRow.lt OP.out q h).2
     rcases Br.1 hx with rfl | hx
     ·exact ltv q h
     rcases Br.1 hx with rfl | hx
     ·exact(World.ownsRow.lt OM.out q h).2
     ·exact ltr x hx q h) (fun q h=>Nat.le_of_eq (HR5.out q h).symm)
    have hsz:wr.heap.size≤w5.heap.size:=by
     exact HZ5.out
    have PG:=FI (V:=[vp]) (U:=vm::(rv++[.slice ad5 row.length cap5])) (v:=.slice vra k vrc) (v':=.slice (some ⟨g8,0,none⟩) (k+1) cap8) (N:=w5.heap.size+1) (show List.Pairwise AP ([vp]++Value.slice vra k vrc::(vm::(rv++[Value.slice ad5 row.length cap5]))) from PN) (fun x hx q h=>by
     rcases CJ.1 hx with hx | hx
     ·rw[Ds.1 hx]at h;have:=(World.ownsRow.lt OP5.out q h).2;omega
     rcases Br.1 hx with rfl | hx
     ·have:=(World.ownsRow.lt OM5.out q h).2;omega
     rcases CJ.1 hx with hx | hx
     ·have:=ltr x hx q h;omega
     ·rw[Ds.1 hx]at h;have:=(World.ownsRow.lt O5.out q h).2;omega) (fun q h=>by
     obtain rfl:g8=q:=by simpa[Value.ownBlock]using h
     rcases HR8.out with e | e
     ·exact .inl e
     ·exact .inr (Nat.le_of_eq e.symm))
    exact⟨k+1,rv++[.slice ad5 row.length cap5],_,by omega,by simp,Aa (C8.out.put1 _),Aa ((OP5.out.kept2 HG8.out apv).setlow hB _),Aa ((OM5.out.kept2 HG8.out amv).setlow hB _),
     Aa (by rw[HTK.out];exact(Di.push OR5.out O5.out HG8.out (by rw[HLK.out];exact HO8.out) (fun j hj=>arv _ (by rw[HLK.out]at hj;simp[List.getD,show j<rv.length by omega])) ar5).setlow hB _),Aa (show List.Pairwise AP (vp::Value.slice (some ⟨g8,0,none⟩) (k+1) cap8::vm::(rv++[Value.slice ad5 row.length cap5])) from PG)⟩
  ·have hkk:k=c.regs.length:=by omega
   subst hkk;have OR9:=Aa (show Di (w.heap.size+3) wr vr c.regs rv by have:=OR.out;rwa [Ez]at this);have PW9:=Aa (show List.Pairwise AP (vp::vr::vm::(.slice none 0 0:Value)::(rv++[])) from(by
    rw[List.append_nil];exact Oj (V:=[vp,vr,vm]) (U:=rv) (v:=.slice none 0 0) (N:=wr.heap.size) PW.out (fun x hx q h=>by
     rcases CJ.1 hx with hx | hx
     ·rcases Br.1 hx with rfl | hx
      ·exact(World.ownsRow.lt OP.out q h).2
      rcases Br.1 hx with rfl | hx
      ·exact(OR.out.out.lt q h).2
      ·rw[Ds.1 hx]at h;exact(World.ownsRow.lt OM.out q h).2
     ·exact OR.out.lts x hx q h) (fun q h=>by cases h)))
   go_wp2_with fail
   obtain⟨wq,hwq⟩:∃x,x=wr:=⟨_,rfl⟩;subst hwq;clear OR PW a1;go_loopg [6] c.buf.length (fun fu q wr=>∃(k:Nat) (bv:List Value) (vb:Value),k+fu=c.buf.length∧q=.int .i64 k∧Hid (Om w wr #[.slice pa c.pc.length pac,.slice ra c.regs.length rac,.slice ma c.mem.length mac,.slice ba c.buf.length bac] vp vr vm vb)∧Hid (AW (w.heap.size+3) wr vp c.pc)∧Hid (AW (w.heap.size+3) wr vm c.mem)∧Hid (Di (w.heap.size+3) wr vr c.regs rv)∧Hid (Ek (w.heap.size+3) wr vb (c.buf.take k) bv)∧Hid ((vp::vr::vm::vb::(rv++bv)).Pairwise AP))
   case atStart=>exact⟨0,[],.slice none 0 0,by omega,rfl,C,OP,OM,OR9,Aa ⟨rfl,CO _ _ _ _,fun j hj=>by simp at hj⟩,PW9⟩
   case round=>
    clear C OP OM OR9 PW9;obtain⟨k,bv,vb,hk,rfl,C,OP,OM,OR,OB,PW⟩:=hrel;have a3:=Ab C.out.bc 3 (.slice ba c.buf.length bac) rfl;by_cases hlt:k<c.buf.length
    ·have z1:(k:Int)<(c.buf.length:Int):=by omega
     obtain⟨t1,t2,t3,hrow⟩:=HBF.out;cases t3;obtain⟨b1,o1,u1,rfl,x1,hin⟩:=hrow k hlt;have x1:=Af C.out.low x1;have hsr:=HL6.out k hlt;have HSR:=Aa ((hin.below C.out.low).src);have htk:c.buf.take (k+1)=c.buf.take k++[c.buf.getD k []]:=by
      rw[List.take_add_one,Bf hlt,AM,Bf hlt];rfl
     have hlk:(c.buf.take k).length=k:=by rw[List.length_take];omega
     have HTK:=Aa htk;have HLK:=Aa hlk;obtain⟨ua,uc,rfl,-⟩:=hin;clear hrow htk;generalize c.buf.getD k []=row at*;obtain⟨vra,vrc,hvr⟩:=Bp OB.out.out;rw[hlk]at hvr;subst hvr;have hol:k≤1000:=by omega
     go_wp2_with (first
      | (at_builtin;refine wpList_append_lies (w5.alloc (.cells #[.slice ad5 row.length cap5] 102)) rfl (.tmp 56) (.tmp 58) 60 rfl (w.heap.size+3) 102 i4 (.slice none 0 0) 1 24 Tryz.underlying60 hi4 hv0 hv1 hv2 rfl (by decide) (.slice vra k vrc) k bv rfl (World.ownsRow.alloc (by have:=OB5.out.out;rw[HLK.out]at this;exact this) _) ⟨w5.heap.size,0,none⟩ 1 1 [.slice ad5 row.length cap5] rfl rfl (World.news_of_block (Ar _ _)) (by simp[Value.oneCell']) (by omega) (by unfold maxLen;omega) (by omega) (by have:=C5.out.size;simp;omega) (w5.heap.size+1) (by simp) ?_;intro g8 cap8 w8 hown8 hgr8 hor8 hlt8;have HO8:=Aa hown8;have HG8:=Aa hgr8;have HR8:=Aa hor8;have C8:=Aa ((C5.out.alloc (.cells #[.slice ad5 row.length cap5] 102)).grown hgr8 (fun q hq=>(OB5.out.out.lt q hq).1));clear hgr8 hown8 hor8 a3 d3 f3;have d3:=Ab C8.out.bd 3 _ rfl;have f3:=Ag C8.out.bd 3)
      | (at_builtin;refine Hi rfl (.tmp 48) (.tmp 53) rfl Tryz.underlying102 hi3 hx0 hx1 hx2 rfl (by decide) (w.heap.size+3) rfl rfl HSR.out (by omega) (by omega) C.out.size ?_;intro ad5 cap5 w5 hown5 hgr5 hor5;have O5:=Aa (show Cb (w.heap.size+3) w5 (.slice ad5 row.length cap5) row from hown5);have HR5:=Aa hor5;have HZ5:=Aa hgr5.size;have C5:=Aa (C.out.grown hgr5 (fun q hq=>by cases hq));have OP5:=Aa (OP.out.kept0 hgr5);have OM5:=Aa (OM.out.kept0 hgr5);have OR5:=Aa (OR.out.kept0 hgr5);have OB5:=Aa (OB.out.kept0 hgr5);clear hown5 hgr5 hor5 a3;have a3:=Ab C5.out.bc 3 _ rfl;have d3:=Ab C5.out.bd 3 _ rfl;have f3:=Ag C5.out.bd 3))
     go_roundg (c.buf.length - (k+1))
     case measure=>omega
     case rel=>
      obtain⟨p1,p2⟩:=BG.1 PW.out;obtain⟨p3,p4⟩:=BG.1 p2;obtain⟨p5,p6⟩:=BG.1 p4;obtain⟨p7,p8⟩:=BG.1 p6;have hB:w.heap.size+1+1<w.heap.size+3:=by omega
      have m3:∀{a b c:Value} {l:List Value},c∈a::b::c::l:=by intro a b c l;simp
      have apv:AP vp (.slice vra k vrc):=p1 _ (by simp);have arv:AP vr (.slice vra k vrc):=p3 _ (by simp);have amv:AP vm (.slice vra k vrc):=p5 _ (by simp);have hbl:bv.length=k:=by have:=OB.out.len;rw[HLK.out]at this;exact this
      have arr:∀x∈rv,AP x (.slice vra k vrc):=fun x hx=>(p7 x (List.mem_append_left _ hx)).symm;have abb:∀x∈bv,AP x (.slice vra k vrc):=fun x hx=>(p7 x (List.mem_append_right _ hx)).symm;have ltv:∀q,Value.ownBlock (.slice vra k vrc)=some q→q<wr.heap.size:=fun q h=>(OB.out.out.lt q h).2;have ar5:AP (.slice ad5 row.length cap5) (.slice vra k vrc):=(AP.fresh ltv (fun q h=>Nat.le_of_eq (HR5.out q h).symm)).symm;have PN:=Oj (V:=vp::vr::vm::.slice vra k vrc::(rv++bv)) (U:=[]) (v:=.slice ad5 row.length cap5) (N:=wr.heap.size) (by rw[List.append_nil];exact PW.out) (fun x hx q h=>by
       rw[List.append_nil]at hx;rcases Br.1 hx with rfl | hx
       ·exact(World.ownsRow.lt OP.out q h).2
       rcases Br.1 hx with rfl | hx
       ·exact(OR.out.out.lt q h).2
       rcases Br.1 hx with rfl | hx
       ·exact(World.ownsRow.lt OM.out q h).2
       rcases Br.1 hx with rfl | hx
       ·exact ltv q h
       rcases CJ.1 hx with hx | hx
       ·exact OR.out.lts x hx q h
       ·exact OB.out.lts x hx q h) (fun q h=>Nat.le_of_eq (HR5.out q h).symm)
      have hsz:wr.heap.size≤w5.heap.size:=HZ5.out;have PN2:List.Pairwise AP ([vp,vr,vm]++Value.slice vra k vrc::(rv++(bv++[Value.slice ad5 row.length cap5]))):=by
       have e:(vp::vr::vm::.slice vra k vrc::(rv++bv))++[Value.slice ad5 row.length cap5]=[vp,vr,vm]++Value.slice vra k vrc::(rv++(bv++[Value.slice ad5 row.length cap5])):=by simp
       rw[← e];exact PN
      have PG:=FI (v':=.slice (some ⟨g8,0,none⟩) (k+1) cap8) (N:=w5.heap.size+1) PN2 (fun x hx q h=>by
       rcases CJ.1 hx with hx | hx
       ·rcases Br.1 hx with rfl | hx
        ·have:=(World.ownsRow.lt OP.out q h).2;omega
        rcases Br.1 hx with rfl | hx
        ·have:=(OR.out.out.lt q h).2;omega
        ·rw[Ds.1 hx]at h;have:=(World.ownsRow.lt OM.out q h).2;omega
       rcases CJ.1 hx with hx | hx
       ·have:=OR.out.lts x hx q h;omega
       rcases CJ.1 hx with hx | hx
       ·have:=OB.out.lts x hx q h;omega
       ·rw[Ds.1 hx]at h;have:=(World.ownsRow.lt O5.out q h).2;omega) (fun q h=>by
       obtain rfl:g8=q:=by simpa[Value.ownBlock]using h
       rcases HR8.out with e | e
       ·exact .inl e
       ·exact .inr (Nat.le_of_eq e.symm))
      exact⟨k+1,bv++[.slice ad5 row.length cap5],_,by omega,by simp,Aa (C8.out.put3 _),Aa ((OP5.out.kept2 HG8.out apv).setlow hB _),Aa ((OM5.out.kept2 HG8.out amv).setlow hB _),Aa ((OR5.out.kept2 HG8.out arv arr).setlow hB _),
       Aa (by rw[HTK.out];exact(Ek.push OB5.out O5.out HG8.out (by rw[HLK.out];exact HO8.out) (fun j hj=>abb _ (by rw[HLK.out]at hj;simp[List.getD,show j<bv.length by omega])) ar5).setlow hB _),Aa (show List.Pairwise AP (vp::vr::vm::Value.slice (some ⟨g8,0,none⟩) (k+1) cap8::(rv++(bv++[Value.slice ad5 row.length cap5]))) from PG)⟩
    ·have hkk:k=c.buf.length:=by omega
     subst hkk;have OB9:=Aa (show Ek (w.heap.size+3) wr vb c.buf bv by have:=OB.out;rwa [Ez]at this);obtain⟨d0,d1,d2,d3⟩:=BX C.out.bd;obtain⟨r0,r1,r2,r3⟩:=BX C.out.br;obtain⟨f0,f1,f2,f3⟩:=Nx C.out.br;obtain⟨s0,t0,rfl⟩:=Bp OP.out;obtain⟨s1,t1,rfl⟩:=Bp OR.out.out;obtain⟨s2,t2,rfl⟩:=Bp OM.out;obtain⟨s3,t3,rfl⟩:=Bp OB9.out.out;go_wp2_with fail
     have OC:BB (w.heap.size+3) wr (.slice s0 c.pc.length t0) (.slice s1 c.regs.length t1) (.slice s2 c.mem.length t2) (.slice s3 c.buf.length t3) rv bv c:=⟨OP.out,OR.out,OM.out,OB9.out,PW.out⟩;have hB:w.heap.size+1<w.heap.size+3:=by omega
     have OF:=((((OC.setlow (i:=0) hB (.slice s0 c.pc.length t0)).setlow (i:=1) hB (.slice s1 c.regs.length t1)).setlow (i:=2) hB (.slice s2 c.mem.length t2)).setlow (i:=3) hB (.slice s3 c.buf.length t3)).low (show w.heap.size≤w.heap.size+3 by omega);have kb:=Ac (i:=3) (v:=.slice s3 c.buf.length t3) (Ac (i:=2) (v:=.slice s2 c.mem.length t2) (Ac (i:=1) (v:=.slice s1 c.regs.length t1) (Ac (i:=0) (v:=.slice s0 c.pc.length t0) C.out.br)));obtain⟨g0,g1,g2,g3⟩:=BX kb;have hW:w.heap.size≤w.heap.size+1:=by omega
     have BF:=(((C.out.low.setCell (p:=⟨w.heap.size+1,0,none⟩) hW (.slice s0 c.pc.length t0)).setCell (p:=⟨w.heap.size+1,1,none⟩) hW (.slice s1 c.regs.length t1)).setCell (p:=⟨w.heap.size+1,2,none⟩) hW (.slice s2 c.mem.length t2)).setCell (p:=⟨w.heap.size+1,3,none⟩) hW (.slice s3 c.buf.length t3);refine Bd (v:=.agg #[.slice s0 c.pc.length t0,.slice s1 c.regs.length t1,.slice s2 c.mem.length t2,.slice s3 c.buf.length t3]) (by simp[results,Tryz.results33,go_sem,g0,g1,g2,g3]) rfl ?_;exact⟨_,_,_,_,rv,bv,rfl,OF,BF⟩
theorem AW.other{base:Nat}{w:World}{v:Value}{l:List Int}(h:AW base w v l){g i:Nat}(hne:v.ownBlock≠some g)(x:Value):AW base (w.setCell ⟨g,i,none⟩ x) v l:=ownsRow_setCell_other h (a:=⟨g,i,none⟩) hne x
theorem Cb.other{base:Nat}{w:World}{v:Value}{l:List En}(h:Cb base w v l){g i:Nat}(hne:v.ownBlock≠some g)(x:Value):Cb base (w.setCell ⟨g,i,none⟩ x) v l:=ownsRow_setCell_other h (a:=⟨g,i,none⟩) hne x
theorem Di.other{base:Nat}{w:World}{v:Value}{rows:List (List Int)}{vals:List Value}(h:Di base w v rows vals){g i:Nat}(hne:v.ownBlock≠some g)(hi:∀x∈vals,x.ownBlock≠some g)(x:Value):Di base (w.setCell ⟨g,i,none⟩ x) v rows vals:=
 ⟨h.len,ownsRow_setCell_other h.out (a:=⟨g,i,none⟩) hne x,fun j hj=>(h.inn j hj).other (hi _ (by simp[List.getD,show j<vals.length by have:=h.len;omega])) x⟩
theorem Ek.other{base:Nat}{w:World}{v:Value}{rows:List (List En)}{vals:List Value}(h:Ek base w v rows vals){g i:Nat}(hne:v.ownBlock≠some g)(hi:∀x∈vals,x.ownBlock≠some g)(x:Value):Ek base (w.setCell ⟨g,i,none⟩ x) v rows vals:=
 ⟨h.len,ownsRow_setCell_other h.out (a:=⟨g,i,none⟩) hne x,fun j hj=>(h.inn j hj).other (hi _ (by simp[List.getD,show j<vals.length by have:=h.len;omega])) x⟩
theorem BB.setPc{base:Nat}{w:World}{g cap:Nat}{vr vm vb:Value}{rv bv:List Value}{c:Cf}(h:BB base w (.slice (some ⟨g,0,none⟩) c.pc.length cap) vr vm vb rv bv c){t:Nat}(ht:t<c.pc.length)(x:Int):
 BB base (w.setCell ⟨g,t,none⟩ (.int .i64 x)) (.slice (some ⟨g,0,none⟩) c.pc.length cap) vr vm vb rv bv {c with pc:=c.pc.set t x}∧w.frozen? ⟨g,t,none⟩=false:=by
 obtain⟨s1,s2⟩:=h.pc.set ht x;obtain⟨p1,-⟩:=BG.1 h.apart;have hg:∀v∈vr::vm::vb::(rv++bv),v.ownBlock≠some g:=fun v hv=>p1 v hv g rfl;exact⟨⟨s1,h.regs.other (hg _ (by simp)) (fun v hv=>hg v (by simp[hv])) _,h.mem.other (hg _ (by simp)) _,h.buf.other (hg _ (by simp)) (fun v hv=>hg v (by simp[hv])) _,h.apart⟩,s2⟩
theorem BB.setMem{base:Nat}{w:World}{g cap:Nat}{vp vr vb:Value}{rv bv:List Value}{c:Cf}(h:BB base w vp vr (.slice (some ⟨g,0,none⟩) c.mem.length cap) vb rv bv c){t:Nat}(ht:t<c.mem.length)(x:Int):
 BB base (w.setCell ⟨g,t,none⟩ (.int .i64 x)) vp vr (.slice (some ⟨g,0,none⟩) c.mem.length cap) vb rv bv {c with mem:=c.mem.set t x}∧w.frozen? ⟨g,t,none⟩=false:=by
 obtain⟨s1,s2⟩:=h.mem.set ht x;obtain⟨p1,q1⟩:=BG.1 h.apart;obtain⟨p2,q2⟩:=BG.1 q1;obtain⟨p3,-⟩:=BG.1 q2;have hg:∀v∈vb::(rv++bv),v.ownBlock≠some g:=fun v hv=>p3 v hv g rfl;have hp:vp.ownBlock≠some g:=fun e=>p1 (.slice (some ⟨g,0,none⟩) c.mem.length cap) (by simp) g e rfl;have hr:vr.ownBlock≠some g:=fun e=>p2 (.slice (some ⟨g,0,none⟩) c.mem.length cap) (by simp) g e rfl;exact⟨⟨h.pc.other hp _,h.regs.other hr (fun v hv=>hg v (by simp[hv])) _,s1,h.buf.other (hg _ (by simp)) (fun v hv=>hg v (by simp[hv])) _,h.apart⟩,s2⟩
theorem BB.setReg{base:Nat}{w:World}{g cap n:Nat}{vp vr vm vb:Value}{rv bv:List Value}{c:Cf}(h:BB base w vp vr vm vb rv bv c){t:Nat}(ht:t<c.regs.length)(hv:rv.getD t undef=.slice (some ⟨g,0,none⟩) n cap){r:Nat}(hr:r<(c.regs.getD t []).length)(x:Int):
 BB base (w.setCell ⟨g,r,none⟩ (.int .i64 x)) vp vr vm vb rv bv {c with regs:=c.regs.set t ((c.regs.getD t []).set r x)}∧w.frozen? ⟨g,r,none⟩=false:=by
 have hl:=h.regs.len;have hrow:=h.regs.inn t ht;obtain⟨ra,rc,e⟩:=Bp hrow;rw[hv]at e;cases e;rw[hv]at hrow;obtain⟨s1,s2⟩:=AW.set hrow hr x;obtain⟨p1,q1⟩:=BG.1 h.apart;obtain⟨p2,q2⟩:=BG.1 q1;obtain⟨p3,q3⟩:=BG.1 q2;obtain⟨p4,q4⟩:=BG.1 q3;have hmem:rv.getD t undef∈rv:=by simp[List.getD,show t<rv.length by omega]
 have hob:(rv.getD t undef).ownBlock=some g:=by rw[hv];rfl
 have np:vp.ownBlock≠some g:=fun e=>p1 (rv.getD t undef) (List.mem_cons_of_mem _ (List.mem_cons_of_mem _ (List.mem_cons_of_mem _ (List.mem_append_left _ hmem)))) g e hob;have nr:vr.ownBlock≠some g:=fun e=>p2 (rv.getD t undef) (List.mem_cons_of_mem _ (List.mem_cons_of_mem _ (List.mem_append_left _ hmem))) g e hob;have nm:vm.ownBlock≠some g:=fun e=>p3 (rv.getD t undef) (List.mem_cons_of_mem _ (List.mem_append_left _ hmem)) g e hob;have nb:vb.ownBlock≠some g:=fun e=>p4 (rv.getD t undef) (List.mem_append_left _ hmem) g e hob;rw[List.pairwise_append]at q4;obtain⟨qr,-,qb⟩:=q4;refine⟨⟨h.pc.other np _,⟨by simp[hl],?_,fun j hj=>?_⟩,h.mem.other nm _,h.buf.other nb (fun v hv' e=>qb _ hmem v hv' g hob e) _,h.apart⟩,s2⟩
 ·rw[List.length_set];exact ownsRow_setCell_other h.regs.out (a:=⟨g,r,none⟩) nr _
 ·rw[List.length_set]at hj;by_cases e:j=t
  ·subst e;have:(c.regs.set j ((c.regs.getD j []).set r x)).getD j []=(c.regs.getD j []).set r x:=by simp[List.getD,hj]
   rw[this,hv];exact s1
  ·have:(c.regs.set t ((c.regs.getD t []).set r x)).getD j []=c.regs.getD j []:=by simp[List.getD,List.getElem?_set_ne (Ne.symm e)]
   rw[this];refine(h.regs.inn j hj).other (fun e2=>?_) _;have hg1:rv.getD j undef=rv[j]'(by omega):=by simp[List.getD,show j<rv.length by omega]
   have hg2:rv.getD t undef=rv[t]'(by omega):=by simp[List.getD,show t<rv.length by omega]
   rw[hg1]at e2;rw[hg2]at hob;rcases Nat.lt_or_ge j t with q | q
   ·exact List.pairwise_iff_getElem.1 qr j t (by omega) (by omega) q g e2 hob
   ·exact List.pairwise_iff_getElem.1 qr t j (by omega) (by omega) (by omega) g hob e2
theorem BB.setBuf{base:Nat}{w:World}{g cap:Nat}{vp vr vm nv:Value}{rv bv:List Value}{c:Cf}{row:List En}(h:BB base w vp vr vm (.slice (some ⟨g,0,none⟩) c.buf.length cap) rv bv c){t:Nat}(ht:t<c.buf.length){N:Nat}(hN:∀v∈vp::vr::vm::.slice (some ⟨g,0,none⟩) c.buf.length cap::(rv++bv),∀q,v.ownBlock=some q→q<N)(hn:Cb base w nv row)(hnv:∀q,nv.ownBlock=some q→N≤q):
 BB base (w.setCell ⟨g,t,none⟩ nv) vp vr vm (.slice (some ⟨g,0,none⟩) c.buf.length cap) rv (bv.set t nv) {c with buf:=c.buf.set t row}∧w.frozen? ⟨g,t,none⟩=false:=by
 have hl:=h.buf.len;obtain⟨p1,q1⟩:=BG.1 h.apart;obtain⟨p2,q2⟩:=BG.1 q1;obtain⟨p3,q3⟩:=BG.1 q2;obtain⟨p4,q4⟩:=BG.1 q3;have hg:g<N:=hN (.slice (some ⟨g,0,none⟩) c.buf.length cap) (by simp) g rfl;have np:vp.ownBlock≠some g:=fun e=>p1 (.slice (some ⟨g,0,none⟩) c.buf.length cap) (by simp) g e rfl;have nr:vr.ownBlock≠some g:=fun e=>p2 (.slice (some ⟨g,0,none⟩) c.buf.length cap) (by simp) g e rfl;have nm:vm.ownBlock≠some g:=fun e=>p3 (.slice (some ⟨g,0,none⟩) c.buf.length cap) (by simp) g e rfl;have ni:∀v∈rv++bv,v.ownBlock≠some g:=fun v hv=>p4 v hv g rfl;have nn:nv.ownBlock≠some g:=fun e=>by have:=hnv g e;omega
 obtain⟨s1,s2⟩:=YM h.buf.out ht nv;have hap:∀v∈vp::vr::vm::.slice (some ⟨g,0,none⟩) c.buf.length cap::(rv++bv),AP v nv:=fun v hv=>AP.fresh (hN v hv) hnv;refine⟨⟨h.pc.other np _,h.regs.other nr (fun v hv=>ni v (List.mem_append_left _ hv)) _,h.mem.other nm _,⟨by simp[hl],by rw[List.length_set];exact s1,fun j hj=>?_⟩,?_⟩,s2⟩
 ·rw[List.length_set]at hj;by_cases e:j=t
  ·subst e;have e1:(c.buf.set j row).getD j []=row:=by simp[List.getD,hj]
   have e2:(bv.set j nv).getD j undef=nv:=by simp[List.getD,show j<bv.length by omega]
   rw[e1,e2];exact hn.other nn _
  ·have e1:(c.buf.set t row).getD j []=c.buf.getD j []:=by simp[List.getD,List.getElem?_set_ne (Ne.symm e)]
   have e2:(bv.set t nv).getD j undef=bv.getD j undef:=by simp[List.getD,List.getElem?_set_ne (Ne.symm e)]
   rw[e1,e2];exact(h.buf.inn j hj).other (ni _ (List.mem_append_right _ (by simp[List.getD,show j<bv.length by omega]))) _
 ·have hmem:∀v∈bv.set t nv,v=nv∨v∈bv:=fun v hv=>(List.mem_or_eq_of_mem_set hv).symm;have hrs:∀v∈rv++bv.set t nv,v=nv∨v∈rv++bv:=fun v hv=>by
   rcases CJ.1 hv with h1 | h1
   ·exact .inr (List.mem_append_left _ h1)
   ·rcases hmem v h1 with h2 | h2
    ·exact .inl h2
    ·exact .inr (List.mem_append_right _ h2)
  refine BG.2 ⟨fun v hv=>?_,BG.2 ⟨fun v hv=>?_,BG.2 ⟨fun v hv=>?_,BG.2 ⟨fun v hv=>?_,?_⟩⟩⟩⟩
  ·simp only[Br]at hv;rcases hv with rfl | rfl | rfl | hv
   ·exact p1 _ (by simp)
   ·exact p1 _ (by simp)
   ·exact p1 _ (by simp)
   ·rcases hrs v hv with rfl | hv
    ·exact hap _ (by simp)
    ·exact p1 v (by simp only[Br];exact .inr (.inr (.inr hv)))
  ·simp only[Br]at hv;rcases hv with rfl | rfl | hv
   ·exact p2 _ (by simp)
   ·exact p2 _ (by simp)
   ·rcases hrs v hv with rfl | hv
    ·exact hap _ (by simp)
    ·exact p2 v (by simp only[Br];exact .inr (.inr hv))
  ·simp only[Br]at hv;rcases hv with rfl | hv
   ·exact p3 _ (by simp)
   ·rcases hrs v hv with rfl | hv
    ·exact hap _ (by simp)
    ·exact p3 v (by simp only[Br];exact .inr hv)
  ·rcases hrs v hv with rfl | hv
   ·exact hap _ (by simp)
   ·exact p4 v hv
  ·rw[List.pairwise_append]at q4 ⊢;obtain⟨qr,qb,qx⟩:=q4;refine⟨qr,?_,fun x hx y hy=>?_⟩
   ·rw[List.pairwise_iff_getElem]at qb ⊢;intro i j hi hj hij;rw[List.length_set]at hi hj;rw[List.getElem_set,List.getElem_set];split
    ·split
     ·omega
     ·exact(hap _ (by simp only[Br];exact .inr (.inr (.inr (.inr (List.mem_append_right _ (List.getElem_mem _))))))).symm
    ·split
     ·exact hap _ (by simp only[Br];exact .inr (.inr (.inr (.inr (List.mem_append_right _ (List.getElem_mem _))))))
     ·exact qb i j hi hj hij
   ·rcases hmem y hy with rfl | hy
    ·exact hap _ (by simp only[Br];exact .inr (.inr (.inr (.inr (List.mem_append_left _ hx)))))
    ·exact qx x hx y hy
structure Kc(w wr:World)(ua ca da xa:Array Value)(D X:Nat):Prop where
 low:Below w.heap.size w wr
 b1:wr.heap[w.heap.size]?=some (.cells ua 25 (0,0))
 b2:wr.heap[w.heap.size+1]?=some (.cells ca 62 (0,0))
 b3:wr.heap[w.heap.size+1+1]?=some (.cells #[.slice none 0 0,.slice none 0 0,.slice none 0 0,.slice none 0 0] 62 (0,0))
 bd:wr.heap[D]?=some (.cells da 62 (0,0))
 bx:wr.heap[X]?=some (.cells xa 50 (0,0))
 hD:w.heap.size+3≤D
 hX:D<X
section
variable {w wr w':World} {ua ca da xa:Array Value} {D X:Nat}
theorem Kc.set(h:Kc w wr ua ca da xa D X){g i:Nat}(h1:w.heap.size+3≤g)(h2:g<D)(v:Value):Kc w (wr.setCell ⟨g,i,none⟩ v) ua ca da xa D X:=by
 have hX:=h.hX;refine⟨h.low.setCell (p:=⟨g,i,none⟩) (by show w.heap.size≤g;omega) v,?_,?_,?_,?_,?_,h.hD,h.hX⟩
 ·rw[Au (by omega)];exact h.b1
 ·rw[Au (by omega)];exact h.b2
 ·rw[Au (by omega)];exact h.b3
 ·rw[Au (by omega)];exact h.bd
 ·rw[Au (by omega)];exact h.bx
theorem Kc.more(h:Kc w wr ua ca da xa D X)(hb:Below wr.heap.size wr w'):Kc w w' ua ca da xa D X:=
 ⟨h.low.trans (hb.mono h.low.size),Ah hb h.b1,Ah hb h.b2,Ah hb h.b3,Ah hb h.bd,Ah hb h.bx,h.hD,h.hX⟩
theorem Kc.drew(h:Kc w wr ua ca da xa D X):Kc w wr.drew ua ca da xa D X:=⟨h.low.drew,h.b1,h.b2,h.b3,h.bd,h.bx,h.hD,h.hX⟩
end
theorem BB.drew{base:Nat}{w:World}{vp vr vm vb:Value}{rv bv:List Value}{c:Cf}(h:BB base w vp vr vm vb rv bv c):BB base w.drew vp vr vm vb rv bv c:=h.more ((Ak _ _).drew)
theorem BB.lts{base:Nat}{w:World}{vp vr vm vb:Value}{rv bv:List Value}{c:Cf}(h:BB base w vp vr vm vb rv bv c):∀v∈vp::vr::vm::vb::(rv++bv),∀q,v.ownBlock=some q→q<w.heap.size:=fun v hv q e=>by
 simp only[Br,CJ]at hv;rcases hv with rfl | rfl | rfl | rfl | hv | hv
 ·exact(World.ownsRow.lt h.pc q e).2
 ·exact(World.ownsRow.lt h.regs.out q e).2
 ·exact(World.ownsRow.lt h.mem q e).2
 ·exact(World.ownsRow.lt h.buf.out q e).2
 ·exact h.regs.lts v hv q e
 ·exact h.buf.lts v hv q e
theorem Az(w:World)(o:Obj):(w.alloc o).heap.size=w.heap.size+1:=by simp
theorem BB.npc{base:Nat}{w:World}{a:Option Addr}{n k:Nat}{vr vm vb:Value}{rv bv:List Value}{c:Cf}(h:BB base w (.slice a n k) vr vm vb rv bv c):n=c.pc.length:=by
 obtain⟨_,_,e⟩:=Bp h.pc;cases e;rfl
theorem BB.nregs{base:Nat}{w:World}{a:Option Addr}{n k:Nat}{vp vm vb:Value}{rv bv:List Value}{c:Cf}(h:BB base w vp (.slice a n k) vm vb rv bv c):n=c.regs.length:=by
 obtain⟨_,_,e⟩:=Bp h.regs.out;cases e;rfl
theorem BB.nbuf{base:Nat}{w:World}{a:Option Addr}{n k:Nat}{vp vr vm:Value}{rv bv:List Value}{c:Cf}(h:BB base w vp vr vm (.slice a n k) rv bv c):n=c.buf.length:=by
 obtain⟨_,_,e⟩:=Bp h.buf.out;cases e;rfl
structure Ea(w wr:World)(ua ca xa:Array Value)(D X gp kp gr kr:Nat)(am:Option Addr)(km gb kb np nr nm nb:Nat)(rv bv:List Value)(c:Cf):Prop where
 m:Kc w wr ua ca #[.slice (some ⟨gp,0,none⟩) np kp,.slice (some ⟨gr,0,none⟩) nr kr,.slice am nm km,.slice (some ⟨gb,0,none⟩) nb kb] xa D X
 o:BB (w.heap.size+3) wr (.slice (some ⟨gp,0,none⟩) np kp) (.slice (some ⟨gr,0,none⟩) nr kr) (.slice am nm km) (.slice (some ⟨gb,0,none⟩) nb kb) rv bv c
 lt:∀v∈(.slice (some ⟨gp,0,none⟩) np kp:Value)::.slice (some ⟨gr,0,none⟩) nr kr::.slice am nm km::.slice (some ⟨gb,0,none⟩) nb kb::(rv++bv),∀q,v.ownBlock=some q→q<D
section
variable {w wr w':World} {ua ca xa:Array Value} {D X gp kp gr kr:Nat} {am:Option Addr} {km gb kb np nr nm nb:Nat} {rv bv:List Value} {c:Cf}
theorem Ea.more(h:Ea w wr ua ca xa D X gp kp gr kr am km gb kb np nr nm nb rv bv c)(hb:Below wr.heap.size wr w'):Ea w w' ua ca xa D X gp kp gr kr am km gb kb np nr nm nb rv bv c:=⟨h.m.more hb,h.o.more hb,h.lt⟩
theorem Ea.drew(h:Ea w wr ua ca xa D X gp kp gr kr am km gb kb np nr nm nb rv bv c):Ea w wr.drew ua ca xa D X gp kp gr kr am km gb kb np nr nm nb rv bv c:=⟨h.m.drew,h.o.drew,h.lt⟩
theorem Ea.setPc(h:Ea w wr ua ca xa D X gp kp gr kr am km gb kb np nr nm nb rv bv c){t:Nat}(ht:t<c.pc.length)(x:Int):
 Ea w (wr.setCell ⟨gp,t,none⟩ (.int .i64 x)) ua ca xa D X gp kp gr kr am km gb kb np nr nm nb rv bv {c with pc:=c.pc.set t x}∧wr.frozen? ⟨gp,t,none⟩=false∧wr.cell? ⟨gp,t,none⟩=some (.int .i64 (c.pc.getD t 0)):=by
 obtain rfl:=h.o.npc;obtain⟨s1,s2⟩:=h.o.setPc ht x;exact⟨⟨h.m.set (World.ownsRow.lt h.o.pc gp rfl).1 (h.lt _ (List.mem_cons_self ..) gp rfl) _,s1,h.lt⟩,s2,h.o.pc.cell ht⟩
theorem Ea.setMem(h:Ea w wr ua ca xa D X gp kp gr kr am km gb kb np nr nm nb rv bv c){l:Nat}(hl:l<c.mem.length):
 ∃g,am=some ⟨g,0,none⟩∧wr.frozen? ⟨g,l,none⟩=false∧wr.cell? ⟨g,l,none⟩=some (.int .i64 (c.mem.getD l 0))∧∀x,Ea w (wr.setCell ⟨g,l,none⟩ (.int .i64 x)) ua ca xa D X gp kp gr kr am km gb kb np nr nm nb rv bv {c with mem:=c.mem.set l x}:=by
 obtain⟨g,cap,e,-,-⟩:=AW.form h.o.mem (by omega);cases e;refine⟨g,rfl,(h.o.setMem hl 0).2,h.o.mem.cell hl,fun x=>?_⟩;exact⟨h.m.set (World.ownsRow.lt h.o.mem g rfl).1 (h.lt (.slice (some ⟨g,0,none⟩) c.mem.length km) (by simp) g rfl) _,(h.o.setMem hl x).1,h.lt⟩
theorem Ea.setReg(h:Ea w wr ua ca xa D X gp kp gr kr am km gb kb np nr nm nb rv bv c){t r:Nat}(ht:t<c.regs.length)(hr:r<(c.regs.getD t []).length):
 ∃g cap,wr.cell? ⟨gr,t,none⟩=some (.slice (some ⟨g,0,none⟩) (c.regs.getD t []).length cap)∧wr.frozen? ⟨g,r,none⟩=false∧wr.cell? ⟨g,r,none⟩=some (.int .i64 ((c.regs.getD t []).getD r 0))∧∀x,Ea w (wr.setCell ⟨g,r,none⟩ (.int .i64 x)) ua ca xa D X gp kp gr kr am km gb kb np nr nm nb rv bv {c with regs:=c.regs.set t ((c.regs.getD t []).set r x)}:=by
 obtain rfl:=h.o.nregs;have hl:=h.o.regs.len;have hin:=h.o.regs.inn t ht;obtain⟨g,cap,e,-,-⟩:=AW.form hin (by omega);have hc:=World.ownsRow.cellAt h.o.regs.out t (by omega);have hm:rv.getD t undef∈rv:=by simp[List.getD,show t<rv.length by omega]
 refine⟨g,cap,?_,(h.o.setReg ht e hr 0).2,?_,fun x=>?_⟩
 ·rw[hc,← e,AM,Bf (by omega)];rfl
 ·rw[e]at hin;exact AW.cell hin hr
 ·exact⟨h.m.set (World.ownsRow.lt hin g (by rw[e];rfl)).1 (h.lt (rv.getD t undef) (by simp only[Br,CJ];exact .inr (.inr (.inr (.inr (.inl hm))))) g (by rw[e];rfl)) _,(h.o.setReg ht e hr x).1,h.lt⟩
theorem Ea.setReg'(h:Ea w wr ua ca xa D X gp kp gr kr am km gb kb np nr nm nb rv bv c){t r:Nat}(ht:t<c.regs.length)(hr:r<(c.regs.getD t []).length):
 ∃g cap,wr.cell? ⟨gr,t,none⟩=some (.slice (some ⟨g,0,none⟩) (c.regs.getD t []).length cap)∧∀w',Below wr.heap.size wr w'→w'.frozen? ⟨g,r,none⟩=false∧w'.cell? ⟨g,r,none⟩=some (.int .i64 ((c.regs.getD t []).getD r 0))∧∀x,Ea w (w'.setCell ⟨g,r,none⟩ (.int .i64 x)) ua ca xa D X gp kp gr kr am km gb kb np nr nm nb rv bv {c with regs:=c.regs.set t ((c.regs.getD t []).set r x)}:=by
 obtain⟨g,cap,c1,-⟩:=h.setReg ht hr;refine⟨g,cap,c1,fun w' hb=>?_⟩;obtain⟨g',cap',c2,f2,v2,H⟩:=(h.more hb).setReg ht hr;have e:=(Af hb c1).symm.trans c2;cases e;exact⟨f2,v2,H⟩
theorem Ea.setMem'(h:Ea w wr ua ca xa D X gp kp gr kr am km gb kb np nr nm nb rv bv c){l:Nat}(hl:l<c.mem.length):
 ∃g,am=some ⟨g,0,none⟩∧∀w',Below wr.heap.size wr w'→w'.frozen? ⟨g,l,none⟩=false∧w'.cell? ⟨g,l,none⟩=some (.int .i64 (c.mem.getD l 0))∧∀x,Ea w (w'.setCell ⟨g,l,none⟩ (.int .i64 x)) ua ca xa D X gp kp gr kr am km gb kb np nr nm nb rv bv {c with mem:=c.mem.set l x}:=by
 obtain⟨g,rfl,-⟩:=h.setMem hl;refine⟨g,rfl,fun w' hb=>?_⟩;obtain⟨g',e,H⟩:=(h.more hb).setMem hl;cases e;exact H
theorem Ea.setBuf(h:Ea w wr ua ca xa D X gp kp gr kr am km gb kb np nr nm nb rv bv c){t:Nat}(ht:t<c.buf.length){w':World}(hb:Below wr.heap.size wr w'){nv:Value}{row:List En}(hn:Cb wr.heap.size w' nv row):
 w'.frozen? ⟨gb,t,none⟩=false∧(∃y,w'.cell? ⟨gb,t,none⟩=some y)∧Kc w (w'.setCell ⟨gb,t,none⟩ nv) ua ca #[.slice (some ⟨gp,0,none⟩) np kp,.slice (some ⟨gr,0,none⟩) nr kr,.slice am nm km,.slice (some ⟨gb,0,none⟩) nb kb] xa D X∧
  BB (w.heap.size+3) (w'.setCell ⟨gb,t,none⟩ nv) (.slice (some ⟨gp,0,none⟩) np kp) (.slice (some ⟨gr,0,none⟩) nr kr) (.slice am nm km) (.slice (some ⟨gb,0,none⟩) nb kb) rv (bv.set t nv) {c with buf:=c.buf.set t row}:=by
 obtain rfl:=h.o.nbuf;have hl:=h.o.buf.len;have hX:X<wr.heap.size:=(BO.1 h.m.bx).1;have hDX:=h.m.hX;have hD:=h.m.hD;have h':=h.more hb;obtain⟨s1,s2⟩:=h'.o.setBuf ht (N:=D) h.lt (CI hn (by omega)) (fun q e=>by have:=(World.ownsRow.lt hn q e).1;omega);have hc:=World.ownsRow.cellAt h'.o.buf.out t (by omega);rw[Bf (by omega)]at hc;exact⟨s2,⟨_,hc⟩,h'.m.set (World.ownsRow.lt h'.o.buf.out gb rfl).1 (h.lt (.slice (some ⟨gb,0,none⟩) c.buf.length kb) (by simp) gb rfl) _,s1⟩
def MG(w8:World)(row:List En)(vs:List Value)(j:Nat)(v:Value)(w':World):Prop:=if j=13 then(∃na nl nc,v=.slice na nl nc∧Cb w8.heap.size w' v row) else v=vs.getD j undef
theorem Qn{w8:World}{row:List En}{vs:List Value}{j:Nat}{v:Value}{w w':World}(hb:Below w.heap.size w w')(h:MG w8 row vs j v w):MG w8 row vs j v w':=by
 unfold MG at h ⊢;split
 ·rename_i e;rw[if_pos e]at h;obtain⟨na,nl,nc,e2,h⟩:=h;exact⟨na,nl,nc,e2,h.more hb⟩
 ·rename_i e;rw[if_neg e]at h;exact h
theorem DV{w wr:World}{ua ca xa:Array Value}{D X:Nat}{v0 v1 v2 v3:Value}{rv bv:List Value}{c:Cf}(m:Kc w wr ua ca #[v0,v1,v2,v3] xa D X)(o:BB (w.heap.size+3) wr v0 v1 v2 v3 rv bv c):
 BB w.heap.size ((((wr.setCell ⟨w.heap.size+1+1,0,none⟩ v0).setCell ⟨w.heap.size+1+1,1,none⟩ v1).setCell ⟨w.heap.size+1+1,2,none⟩ v2).setCell ⟨w.heap.size+1+1,3,none⟩ v3) v0 v1 v2 v3 rv bv c∧
 Below w.heap.size w ((((wr.setCell ⟨w.heap.size+1+1,0,none⟩ v0).setCell ⟨w.heap.size+1+1,1,none⟩ v1).setCell ⟨w.heap.size+1+1,2,none⟩ v2).setCell ⟨w.heap.size+1+1,3,none⟩ v3)∧
 ((((wr.setCell ⟨w.heap.size+1+1,0,none⟩ v0).setCell ⟨w.heap.size+1+1,1,none⟩ v1).setCell ⟨w.heap.size+1+1,2,none⟩ v2).setCell ⟨w.heap.size+1+1,3,none⟩ v3).cell? ⟨w.heap.size+1+1,0,none⟩=some v0∧
 ((((wr.setCell ⟨w.heap.size+1+1,0,none⟩ v0).setCell ⟨w.heap.size+1+1,1,none⟩ v1).setCell ⟨w.heap.size+1+1,2,none⟩ v2).setCell ⟨w.heap.size+1+1,3,none⟩ v3).cell? ⟨w.heap.size+1+1,1,none⟩=some v1∧
 ((((wr.setCell ⟨w.heap.size+1+1,0,none⟩ v0).setCell ⟨w.heap.size+1+1,1,none⟩ v1).setCell ⟨w.heap.size+1+1,2,none⟩ v2).setCell ⟨w.heap.size+1+1,3,none⟩ v3).cell? ⟨w.heap.size+1+1,2,none⟩=some v2∧
 ((((wr.setCell ⟨w.heap.size+1+1,0,none⟩ v0).setCell ⟨w.heap.size+1+1,1,none⟩ v1).setCell ⟨w.heap.size+1+1,2,none⟩ v2).setCell ⟨w.heap.size+1+1,3,none⟩ v3).cell? ⟨w.heap.size+1+1,3,none⟩=some v3:=by
 have hB:w.heap.size+1+1<w.heap.size+3:=by omega
 have hW:w.heap.size≤w.heap.size+1+1:=by omega
 have OF:=((((o.setlow (i:=0) hB v0).setlow (i:=1) hB v1).setlow (i:=2) hB v2).setlow (i:=3) hB v3).low (show w.heap.size≤w.heap.size+3 by omega);have kb:=Ac (i:=3) (v:=v3) (Ac (i:=2) (v:=v2) (Ac (i:=1) (v:=v1) (Ac (i:=0) (v:=v0) m.b3)));have BF:=(((m.low.setCell (p:=⟨w.heap.size+1+1,0,none⟩) hW v0).setCell (p:=⟨w.heap.size+1+1,1,none⟩) hW v1).setCell (p:=⟨w.heap.size+1+1,2,none⟩) hW v2).setCell (p:=⟨w.heap.size+1+1,3,none⟩) hW v3;exact⟨OF,BF,Ab kb 0 v0 rfl,Ab kb 1 v1 rfl,Ab kb 2 v2 rfl,Ab kb 3 v3 rfl⟩
end
end Go.Proofs.YtlhpjfnfemebdaaGreat
