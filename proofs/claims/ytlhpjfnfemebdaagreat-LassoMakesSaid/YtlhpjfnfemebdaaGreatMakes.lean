/-
  spinnakerlaw19.LassoMakes: the walk. (Written by gen_makes.py.)
-/
import Derived.Test.YtlhpjfnfemebdaaGreatMakeP
import Derived.Test.YtlhpjfnfemebdaaGreatKnown19
import Derived.Test.YtlhpjfnfemebdaaGreatJStart
import Derived.Test.YtlhpjfnfemebdaaGreatJMachP
namespace Go.Proofs.YtlhpjfnfemebdaaGreat
open Go.RowKit
structure LZ(w wr:World)(CC:Array Value)(b:Nat)(SV:Array Value)(s:Sp):Prop where
 below:Below w.heap.size w wr
 bc:wr.heap[w.heap.size]?=some (.cells CC 27 (0,0))
 bs:wr.heap[b]?=some (.cells SV 34 (0,0))
 sv:QV wr (.agg SV) s
theorem LZ.more{w wr w':World}{CC SV:Array Value}{b:Nat}{s:Sp}(h:LZ w wr CC b SV s)(hb:Below wr.heap.size wr w'):LZ w w' CC b SV s:=
 ⟨h.below.trans (hb.mono h.below.size),Ah hb h.bc,Ah hb h.bs,h.sv.below hb⟩
theorem LZ.start{w w2:World}{CC SV:Array Value}{s:Sp}(hb:Below w.heap.size w w2)(hc:w2.heap[w.heap.size]?=some (.cells CC 27 (0,0)))(hs:QV w2 (.agg SV) s):LZ w (w2.alloc (.cells SV 34)) CC w2.heap.size SV s:=
 ⟨hb.trans ((Ae w2 _).mono hb.size),Ah (Ae w2 _) hc,Ar w2 _,hs.below (Ae w2 _)⟩
theorem QV.sixG{w:World}{v:Value}{s:Sp}(h:QV w v s):∃c n k s1 nS p a nA q t nT r x nP y z nB b,v=.agg #[.slice c n k,.slice s1 nS p,.slice a nA q,.slice t nT r,.slice x nP y,.slice z nB b]∧Ao w (.agg #[.slice s1 nS p,.slice a nA q,.slice t nT r]) (Ai (s.confs.length:Int) s.ed):=by
 obtain⟨vC,sa,sc,aa,ac,ta,tc,vP,vA,rfl,hC,hG,hP,hA⟩:=h.var;obtain⟨xc,xcc,rfl,-⟩:=hC;obtain⟨xp,xpc,rfl,-⟩:=hP;obtain⟨xa,xac,rfl,-⟩:=hA;exact⟨_,_,_,_,_,_,_,_,_,_,_,_,_,_,_,_,_,_,rfl,hG⟩
set_option maxRecDepth 100000 in
set_option maxHeartbeats 64000000 in
theorem TZ(v:Value)(strong:Bool)(u:DG)(model room budget:Int)(w:World)(h:cY w v u model room budget):
 Calls Tryz.prog 3 #[v,.bool strong] w fun e w'=>e=.returned (.bool true)∧Below w.heap.size w w':=by
 obtain⟨vi,vr,vc,rfl,hu⟩:=h.ex;have HLI:=Aa (fun(w':World) (hb:Below w.heap.size w w')=>WA _ u w' (hu.below hb));have HUV:=Aa (fun(w':World) (hb:Below w.heap.size w w')=>hu.below hb);have HKN:=Aa ZX;have S0:=Aa (Tq.start w #[.int .i64 u.mod,vi,vr,vc,.int .i64 model,.int .i64 room,.int .i64 budget] 27);obtain⟨c0,c1,c2,c3,c4,c5,c6⟩:=LD S0.out.blk;cases hl:Gy u
 ·rw[hl]at HLI;clear h hu hl;go_enter Tryz.func3,Tryz.ntmps3;go_wp2_with (first
   | (go_at_call 5;refine(HKN.out _).mono ?_;rintro e wE ⟨rfl,hb⟩;have SE:=Aa (S1.out.more hb);clear hb)
   | (go_at_call 4;refine(HLI.out _ S0.out.below).mono ?_;rintro e w1 ⟨rfl,hb⟩;have S1:=Aa (S0.out.more hb);clear hb;clear c0 c1 c2 c3 c4 c5 c6;obtain⟨c0,c1,c2,c3,c4,c5,c6⟩:=LD S1.out.blk))
  go_ret;exact⟨rfl,SE.out.below⟩
 rw[hl]at HLI;have hL:=Xq hl;by_cases hbg:(100:Int)<budget
 ·clear h hu hl hL;go_enter Tryz.func3,Tryz.ntmps3;go_wp2_with (first
   | (go_at_call 5;refine(HKN.out _).mono ?_;rintro e wE ⟨rfl,hb⟩;have SE:=Aa (S1.out.more hb);clear hb)
   | (go_at_call 4;refine(HLI.out _ S0.out.below).mono ?_;rintro e w1 ⟨rfl,hb⟩;have S1:=Aa (S0.out.more hb);clear hb;clear c0 c1 c2 c3 c4 c5 c6;obtain⟨c0,c1,c2,c3,c4,c5,c6⟩:=LD S1.out.blk))
  go_ret;exact⟨rfl,SE.out.below⟩
 have HAL:=Aa (fun(w':World) (hb:Below w.heap.size w w')=>Wv _ u model room budget w' (hu.below hb) hL (by omega));cases hR:Ja u model room budget with
 | none=>
  rw[hR]at HAL;clear h hu hl hL hR;go_enter Tryz.func3,Tryz.ntmps3;go_wp2_with (first
   | (go_at_call 5;refine(HKN.out _).mono ?_;rintro e wE ⟨rfl,hb⟩;have SE:=Aa (S2.out.more hb);clear hb)
   | (go_at_call 6;refine(HAL.out _ S1.out.below).mono ?_;rintro e1 w2 ⟨⟨e,rfl,he⟩,hb2⟩;have S2:=Aa ((S1.out.more hb2).more (Ae w2 (.cells #[.slice none 0 0,.slice none 0 0,.slice none 0 0,.slice none 0 0,.slice none 0 0,.slice none 0 0] 34)));have hne:(e !=0)=true:=(by simpa using he);clear hb2 he)
   | (go_at_call 4;refine(HLI.out _ S0.out.below).mono ?_;rintro e w1 ⟨rfl,hb⟩;have S1:=Aa (S0.out.more hb);clear hb;clear c0 c1 c2 c3 c4 c5 c6;obtain⟨c0,c1,c2,c3,c4,c5,c6⟩:=LD S1.out.blk))
  go_ret;exact⟨rfl,SE.out.below⟩
 | some s=>
  rw[hR]at HAL;have hG:=Vf hR (by omega);obtain⟨mode,hm⟩:∃mode:Int,mode=if strong=true then 2 else 1:=⟨_,rfl⟩
  have hmm:mode=1∨mode=2:=by rw[hm];cases strong <;> simp
  have hF:=eI hR (by omega) hmm;obtain⟨part,hpt⟩:∃part,part=Dl (Ai (s.confs.length:Int) s.ed) (NJ u s model room) (Fx u model:Nat) mode:=⟨_,rfl⟩;rw[← hpt]at hF;have hN:Ad (Ai (s.confs.length:Int) s.ed)≤100000:=hG.spl.nodes;have hSS:(Ai (s.confs.length:Int) s.ed).S.length≤100000:=by rw[fH hG];have:=hG.le;omega
  have HEN:=Aa (fun(w':World) (uv sv:Value) (h1:Ma w' uv u) (h2:QV w' sv s)=>QM uv sv u s model room w' h1 h2 hG.right hL hG.le hG.cf);have HAG:=Aa (fun(w':World) (uv:Value) (h1:Ma w' uv u)=>Js uv u model w' h1 hG.right hL);have HFI:=Aa (fun(w':World) (gv ev:Value) (h1:Ao w' gv (Ai (s.confs.length:Int) s.ed)) (h2:AO w' ev (NJ u s model room))=>(by have:=Xn gv ev _ _ (Fx u model:Nat) mode w' h1 h2 hN hSS;rwa [← hpt]at this:Calls Tryz.prog 9 #[gv,ev,.int .i64 (Fx u model:Nat),.int .i64 mode] w' (DC w' part)));obtain⟨good,hgd⟩:∃good,good=AU (Ai (s.confs.length:Int) s.ed) (NJ u s model room) (Fx u model:Nat) mode part:=⟨_,rfl⟩;have HM1:=Aa (fun(w':World) (sv ev pv:Value) (h1:QV w' sv s) (h2:AO w' ev (NJ u s model room)) (h3:Am w' pv part)=>(by have:=Yx sv ev pv s _ _ mode part w' h1 h2 h3 hF.len hG.spl hF.ok;unfold Pt at this;rwa [← hgd]at this:Calls Tryz.prog 10 #[sv,ev,.int .i64 (Fx u model:Nat),.int .i64 mode,pv] w' fun e w2=>∃av cv,e=.returned (.tuple #[av,cv,.bool good])∧Am w2 av (ZC s (NJ u s model room) (Fx u model:Nat) mode part)∧Am w2 cv (Cc (Ai (s.confs.length:Int) s.ed) (NJ u s model room) (Fx u model:Nat) mode part).2.1∧Below w'.heap.size w' w2));have HM2:=Aa (fun(w':World) (sv ev pv:Value) (h1:QV w' sv s) (h2:AO w' ev (NJ u s model room)) (h3:Am w' pv part)=>(by have:=YJ sv ev pv s _ _ mode part w' h1 h2 h3 hF.len hG.spl hF.ok;unfold Pt at this;rwa [← hgd]at this:Calls Tryz.prog 11 #[sv,ev,.int .i64 (Fx u model:Nat),.int .i64 mode,pv] w' fun e w2=>∃av cv,e=.returned (.tuple #[av,cv,.bool good])∧Am w2 av (ZC s (NJ u s model room) (Fx u model:Nat) mode part)∧Am w2 cv (Cc (Ai (s.confs.length:Int) s.ed) (NJ u s model room) (Fx u model:Nat) mode part).2.1∧Below w'.heap.size w' w2));have HFO:=Aa (fun(w':World) (gv pv:Value) (x:Int) (p:List Int) (h1:Ao w' gv (Ai (s.confs.length:Int) s.ed)) (h2:Am w' pv p) (h3:p.length≤1000000)=>aK gv pv _ x p w' h1 h2 h3);have HIS:=Aa (fun(w':World) (v u:Value) (l:List Int) (h1:Am w' v l) (h2:Am w' u l) (hl:l.length≤1000000)=>Ln v u l w' h1 h2 hl);have hlp:=hF.lp;have hlc:=hF.lc;have hf1:=hF.f1;have hf2:=hF.f2;rw[hF.good]at hgd;clear h hu hl hL hR hF hG hmm hpt hN hSS;generalize (Cc (Ai (s.confs.length:Int) s.ed) (NJ u s model room) (Fx u model:Nat) mode part).2.1=WL at*;generalize ZC s (NJ u s model room) (Fx u model:Nat) mode part=PL at*;generalize NJ u s model room=en at*;generalize Fx u model=A at*;obtain⟨G,hGe⟩:∃G,G=Ai (s.confs.length:Int) s.ed:=⟨_,rfl⟩;rw[← hGe]at HFI HFO hf1 hf2;have HGE:=Aa hGe;clear hGe;by_cases hpp:0<part.length
  ·have y0:decide (0<part.length)=true:=Ck hpp;have hf1:=Aa (hf1 hpp);have hf2:=Aa (hf2 hpp);rw[Ck hpp]at hgd;subst hgd;have HPP:=Aa hpp;clear hpp;cases strong;all_goals
    first | rw[if_pos rfl]at hm | rw[if_neg (by simp)]at hm
    subst hm;go_enter Tryz.func3,Tryz.ntmps3;go_wp2_with (first
     | (go_at_call 12;refine(HIS.out _ _ _ WL C7.out D7.out hlc).mono ?_;rintro e w8 ⟨rfl,hb⟩;have S8:=Aa (S7.out.more hb);have G8:=Aa (G7.out.below hb);have P8:=Aa (P7.out.below hb);have C8:=Aa (C7.out.below hb);have HPT8:=Aa (I7.out.below hb);clear hb;clear c0 c1 c2 c3 c4 c5 c6 d0 d1 d2 d3 d4 d5;obtain⟨c0,c1,c2,c3,c4,c5,c6⟩:=LD S8.out.bc;obtain⟨d0,d1,d2,d3,d4,d5⟩:=JS S8.out.bs)
     | (go_at_call 12;refine(HIS.out _ _ _ PL P6.out Q6.out hlp).mono ?_;rintro e w7 ⟨rfl,hb⟩;have S7:=Aa (S6.out.more hb);have G7:=Aa (G6.out.below hb);have P7:=Aa (P6.out.below hb);have C7:=Aa (C6.out.below hb);have D7:=Aa (D6.out.below hb);have I7:=Aa (I6.out.below hb);clear hb;clear c0 c1 c2 c3 c4 c5 c6 d0 d1 d2 d3 d4 d5;obtain⟨c0,c1,c2,c3,c4,c5,c6⟩:=LD S7.out.bc;obtain⟨d0,d1,d2,d3,d4,d5⟩:=JS S7.out.bs)
     | (go_at_call 11;refine(HM2.out _ _ _ _ S5.out.sv E5.out I5.out).mono ?_;rintro e w6 ⟨av,cv,rfl,hP,hC,hb⟩;obtain⟨qa,qc,rfl,-⟩:=id hP;obtain⟨da,dc,rfl,-⟩:=id hC;have Q6:=Aa hP;have D6:=Aa hC;have S6:=Aa (S5.out.more hb);have G6:=Aa (G5.out.below hb);have P6:=Aa (P5.out.below hb);have C6:=Aa (C5.out.below hb);have I6:=Aa (I5.out.below hb);clear hb hP hC;clear c0 c1 c2 c3 c4 c5 c6 d0 d1 d2 d3 d4 d5;obtain⟨c0,c1,c2,c3,c4,c5,c6⟩:=LD S6.out.bc;obtain⟨d0,d1,d2,d3,d4,d5⟩:=JS S6.out.bs)
     | (go_at_call 10;refine(HM1.out _ _ _ _ S4.out.sv E4.out I4.out).mono ?_;rintro e w5 ⟨av,cv,rfl,hP,hC,hb⟩;obtain⟨pa,pc,rfl,-⟩:=id hP;obtain⟨ca,cc,rfl,-⟩:=id hC;have P5:=Aa hP;have C5:=Aa hC;have S5:=Aa (S4.out.more hb);have G5:=Aa (G4.out.below hb);have E5:=Aa (E4.out.below hb);have I5:=Aa (I4.out.below hb);clear hb hP hC;clear c0 c1 c2 c3 c4 c5 c6 d0 d1 d2 d3 d4 d5;obtain⟨c0,c1,c2,c3,c4,c5,c6⟩:=LD S5.out.bc;obtain⟨d0,d1,d2,d3,d4,d5⟩:=JS S5.out.bs)
     | (go_at_call 9;refine(HFI.out _ _ _ G3.out E3.out).mono ?_;rintro e w4 ⟨pv,rfl,hI,hb⟩;obtain⟨ta,tc,rfl,-⟩:=id hI;have I4:=Aa hI;have S4:=Aa (S3.out.more hb);have G4:=Aa (G3.out.below hb);have E4:=Aa (E3.out.below hb);clear hb hI;clear c0 c1 c2 c3 c4 c5 c6 d0 d1 d2 d3 d4 d5;obtain⟨c0,c1,c2,c3,c4,c5,c6⟩:=LD S4.out.bc;obtain⟨d0,d1,d2,d3,d4,d5⟩:=JS S4.out.bs)
     | (go_at_call 8;refine(HAG.out _ _ (HUV.out _ SA.out.below)).mono ?_;rintro e w3 ⟨rfl,hb⟩;have S3:=Aa (SA.out.more hb);have G3:=Aa (GA.out.below hb);have E3:=Aa (EA.out.below hb);clear hb;clear c0 c1 c2 c3 c4 c5 c6 d0 d1 d2 d3 d4 d5;obtain⟨c0,c1,c2,c3,c4,c5,c6⟩:=LD S3.out.bc;obtain⟨d0,d1,d2,d3,d4,d5⟩:=JS S3.out.bs)
     | (go_at_call 7;refine(HEN.out _ _ _ (HUV.out _ S2.out.below) S2.out.sv).mono ?_;rintro e wA ⟨ev,rfl,hE,hb⟩;obtain⟨ea,ec,rfl,-⟩:=id hE;have EA:=Aa hE;have SA:=Aa (S2.out.more hb);have GA:=Aa (G2.out.below hb);clear hb hE;clear c0 c1 c2 c3 c4 c5 c6 d0 d1 d2 d3 d4 d5;obtain⟨c0,c1,c2,c3,c4,c5,c6⟩:=LD SA.out.bc;obtain⟨d0,d1,d2,d3,d4,d5⟩:=JS SA.out.bs)
     | (go_at_call 6;refine(HAL.out _ S1.out.below).mono ?_;rintro e1 w2 ⟨⟨sv,rfl,hsv,-⟩,hb2⟩;obtain⟨uc,n,uk,s1,nS,up,ua,nA,uq,ut,nT,ur,ux,nP,uy,uz,nB,ub,rfl,hgr⟩:=hsv.sixG;rw[← HGE.out]at hgr;have X2:=S1.out.more hb2;have S2:=Aa (LZ.start X2.below X2.blk hsv);have G2:=Aa (hgr.below (Ae w2 (.cells #[.slice uc n uk,.slice s1 nS up,.slice ua nA uq,.slice ut nT ur,.slice ux nP uy,.slice uz nB ub] 34)));clear hsv hgr hb2 X2;clear c0 c1 c2 c3 c4 c5 c6;obtain⟨c0,c1,c2,c3,c4,c5,c6⟩:=LD S2.out.bc;obtain⟨d0,d1,d2,d3,d4,d5⟩:=JS S2.out.bs)
     | (go_at_call 4;refine(HLI.out _ S0.out.below).mono ?_;rintro e w1 ⟨rfl,hb⟩;have S1:=Aa (S0.out.more hb);clear hb;clear c0 c1 c2 c3 c4 c5 c6;obtain⟨c0,c1,c2,c3,c4,c5,c6⟩:=LD S1.out.blk))
    obtain⟨xa9,xc9,e9,hpt9⟩:=id HPT8.out;cases e9;have HPT:=Aa hpt9;clear hpt9;generalize w2.heap.size=b9 at*;obtain⟨b1,o1,rfl,x1⟩:=HPT.out 0 HPP.out;rw[Nat.add_zero]at x1;generalize part.getD 0 0=p0 at*;have y1:(p0==p0)=true:=by simp
    have z1:(0:Int)<(part.length:Int):=by have:=HPP.out;omega
    have HF2:Hid (∀(j:Bk w8) (x:Int) (pv:Value),(x=0∧pv=.slice pa PL.length pc∨x=p0∧pv=.slice ca WL.length cc)→Calls Tryz.prog 13 #[(.agg #[.slice s1 nS up,.slice ua nA uq,.slice ut nT ur]),.int .i64 x,pv] j.1 fun e w2=>e=.returned (.int .i64 p0)∧Below j.1.heap.size j.1 w2):=Aa (by
     rintro j x pv (⟨rfl,rfl⟩ | ⟨rfl,rfl⟩)
     ·have:=HFO.out j.1 _ _ 0 PL (G8.out.below j.2) (P8.out.below j.2) hlp;rwa [hf1.out]at this
     ·have:=HFO.out j.1 _ _ x WL (G8.out.below j.2) (C8.out.below j.2) hlc;rwa [hf2.out]at this)
    have HK2:Hid (∀(j:Bk w8),Calls Tryz.prog 5 #[] j.1 fun e w2=>e=.returned (.bool true)∧Below j.1.heap.size j.1 w2):=Aa (fun j=>HKN.out j.1);have f1:∀j:Bk w8,j.1.cell? ⟨b9,1,none⟩=some (.slice s1 nS up):=fun j=>j.cell d1;have f2:∀j:Bk w8,j.1.cell? ⟨b9,2,none⟩=some (.slice ua nA uq):=fun j=>j.cell d2;have f3:∀j:Bk w8,j.1.cell? ⟨b9,3,none⟩=some (.slice ut nT ur):=fun j=>j.cell d3;have f4:∀j:Bk w8,j.1.cell? ⟨b1,o1,none⟩=some (.int .i64 p0):=fun j=>j.cell x1;clear c0 c1 c2 c3 c4 c5 c6 d0 d1 d2 d3 d4 d5 x1 hlp hlc;refine AD (by kernel_rfl) (by kernel_rfl) ?_;repeat (go_big_quiet_step (first
     | (go_at_call 13;exact Calls.sub_of (HF2.out _ _ _ (by simp)))
     | (go_at_call 5;exact Calls.sub_of (HK2.out _))))
    refine wpQuiet_nil ?_;intro w9 hb9;have SE:=Aa (S8.out.more hb9);clear hb9;go_wp2_with fail
    go_ret;exact⟨rfl,SE.out.below⟩
  ·have y0:decide (0<part.length)=false:=Cj hpp;rw[Cj hpp]at hgd;subst hgd;clear hpp hf1 hf2;cases strong;all_goals
    first | rw[if_pos rfl]at hm | rw[if_neg (by simp)]at hm
    subst hm;go_enter Tryz.func3,Tryz.ntmps3;go_wp2_with (first
     | (go_at_call 12;refine(HIS.out _ _ _ WL C7.out D7.out hlc).mono ?_;rintro e w8 ⟨rfl,hb⟩;have S8:=Aa (S7.out.more hb);have G8:=Aa (G7.out.below hb);have P8:=Aa (P7.out.below hb);have C8:=Aa (C7.out.below hb);have HPT8:=Aa (I7.out.below hb);clear hb;clear c0 c1 c2 c3 c4 c5 c6 d0 d1 d2 d3 d4 d5;obtain⟨c0,c1,c2,c3,c4,c5,c6⟩:=LD S8.out.bc;obtain⟨d0,d1,d2,d3,d4,d5⟩:=JS S8.out.bs)
     | (go_at_call 12;refine(HIS.out _ _ _ PL P6.out Q6.out hlp).mono ?_;rintro e w7 ⟨rfl,hb⟩;have S7:=Aa (S6.out.more hb);have G7:=Aa (G6.out.below hb);have P7:=Aa (P6.out.below hb);have C7:=Aa (C6.out.below hb);have D7:=Aa (D6.out.below hb);have I7:=Aa (I6.out.below hb);clear hb;clear c0 c1 c2 c3 c4 c5 c6 d0 d1 d2 d3 d4 d5;obtain⟨c0,c1,c2,c3,c4,c5,c6⟩:=LD S7.out.bc;obtain⟨d0,d1,d2,d3,d4,d5⟩:=JS S7.out.bs)
     | (go_at_call 11;refine(HM2.out _ _ _ _ S5.out.sv E5.out I5.out).mono ?_;rintro e w6 ⟨av,cv,rfl,hP,hC,hb⟩;obtain⟨qa,qc,rfl,-⟩:=id hP;obtain⟨da,dc,rfl,-⟩:=id hC;have Q6:=Aa hP;have D6:=Aa hC;have S6:=Aa (S5.out.more hb);have G6:=Aa (G5.out.below hb);have P6:=Aa (P5.out.below hb);have C6:=Aa (C5.out.below hb);have I6:=Aa (I5.out.below hb);clear hb hP hC;clear c0 c1 c2 c3 c4 c5 c6 d0 d1 d2 d3 d4 d5;obtain⟨c0,c1,c2,c3,c4,c5,c6⟩:=LD S6.out.bc;obtain⟨d0,d1,d2,d3,d4,d5⟩:=JS S6.out.bs)
     | (go_at_call 10;refine(HM1.out _ _ _ _ S4.out.sv E4.out I4.out).mono ?_;rintro e w5 ⟨av,cv,rfl,hP,hC,hb⟩;obtain⟨pa,pc,rfl,-⟩:=id hP;obtain⟨ca,cc,rfl,-⟩:=id hC;have P5:=Aa hP;have C5:=Aa hC;have S5:=Aa (S4.out.more hb);have G5:=Aa (G4.out.below hb);have E5:=Aa (E4.out.below hb);have I5:=Aa (I4.out.below hb);clear hb hP hC;clear c0 c1 c2 c3 c4 c5 c6 d0 d1 d2 d3 d4 d5;obtain⟨c0,c1,c2,c3,c4,c5,c6⟩:=LD S5.out.bc;obtain⟨d0,d1,d2,d3,d4,d5⟩:=JS S5.out.bs)
     | (go_at_call 9;refine(HFI.out _ _ _ G3.out E3.out).mono ?_;rintro e w4 ⟨pv,rfl,hI,hb⟩;obtain⟨ta,tc,rfl,-⟩:=id hI;have I4:=Aa hI;have S4:=Aa (S3.out.more hb);have G4:=Aa (G3.out.below hb);have E4:=Aa (E3.out.below hb);clear hb hI;clear c0 c1 c2 c3 c4 c5 c6 d0 d1 d2 d3 d4 d5;obtain⟨c0,c1,c2,c3,c4,c5,c6⟩:=LD S4.out.bc;obtain⟨d0,d1,d2,d3,d4,d5⟩:=JS S4.out.bs)
     | (go_at_call 8;refine(HAG.out _ _ (HUV.out _ SA.out.below)).mono ?_;rintro e w3 ⟨rfl,hb⟩;have S3:=Aa (SA.out.more hb);have G3:=Aa (GA.out.below hb);have E3:=Aa (EA.out.below hb);clear hb;clear c0 c1 c2 c3 c4 c5 c6 d0 d1 d2 d3 d4 d5;obtain⟨c0,c1,c2,c3,c4,c5,c6⟩:=LD S3.out.bc;obtain⟨d0,d1,d2,d3,d4,d5⟩:=JS S3.out.bs)
     | (go_at_call 7;refine(HEN.out _ _ _ (HUV.out _ S2.out.below) S2.out.sv).mono ?_;rintro e wA ⟨ev,rfl,hE,hb⟩;obtain⟨ea,ec,rfl,-⟩:=id hE;have EA:=Aa hE;have SA:=Aa (S2.out.more hb);have GA:=Aa (G2.out.below hb);clear hb hE;clear c0 c1 c2 c3 c4 c5 c6 d0 d1 d2 d3 d4 d5;obtain⟨c0,c1,c2,c3,c4,c5,c6⟩:=LD SA.out.bc;obtain⟨d0,d1,d2,d3,d4,d5⟩:=JS SA.out.bs)
     | (go_at_call 6;refine(HAL.out _ S1.out.below).mono ?_;rintro e1 w2 ⟨⟨sv,rfl,hsv,-⟩,hb2⟩;obtain⟨uc,n,uk,s1,nS,up,ua,nA,uq,ut,nT,ur,ux,nP,uy,uz,nB,ub,rfl,hgr⟩:=hsv.sixG;rw[← HGE.out]at hgr;have X2:=S1.out.more hb2;have S2:=Aa (LZ.start X2.below X2.blk hsv);have G2:=Aa (hgr.below (Ae w2 (.cells #[.slice uc n uk,.slice s1 nS up,.slice ua nA uq,.slice ut nT ur,.slice ux nP uy,.slice uz nB ub] 34)));clear hsv hgr hb2 X2;clear c0 c1 c2 c3 c4 c5 c6;obtain⟨c0,c1,c2,c3,c4,c5,c6⟩:=LD S2.out.bc;obtain⟨d0,d1,d2,d3,d4,d5⟩:=JS S2.out.bs)
     | (go_at_call 4;refine(HLI.out _ S0.out.below).mono ?_;rintro e w1 ⟨rfl,hb⟩;have S1:=Aa (S0.out.more hb);clear hb;clear c0 c1 c2 c3 c4 c5 c6;obtain⟨c0,c1,c2,c3,c4,c5,c6⟩:=LD S1.out.blk))
    obtain⟨xa9,xc9,e9,hpt9⟩:=id HPT8.out;cases e9;have HPT:=Aa hpt9;clear hpt9;generalize w2.heap.size=b9 at*;have HK2:Hid (∀(j:Bk w8),Calls Tryz.prog 5 #[] j.1 fun e w2=>e=.returned (.bool true)∧Below j.1.heap.size j.1 w2):=Aa (fun j=>HKN.out j.1);clear c0 c1 c2 c3 c4 c5 c6 d0 d1 d2 d3 d4 d5 hlp hlc;refine AD (by kernel_rfl) (by kernel_rfl) ?_;repeat (go_big_quiet_step ((go_at_call 5;exact Calls.sub_of (HK2.out _))))
    refine wpQuiet_nil ?_;intro w9 hb9;have SE:=Aa (S8.out.more hb9);clear hb9;go_wp2_with fail
    go_ret;exact⟨rfl,SE.out.below⟩
end Go.Proofs.YtlhpjfnfemebdaaGreat
