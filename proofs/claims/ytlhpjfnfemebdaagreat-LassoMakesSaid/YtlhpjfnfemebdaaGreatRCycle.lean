/-
  ref19's Cycle. (Written by gen_rcycle.py.)
-/
import Derived.Test.YtlhpjfnfemebdaaGreatLassoCyc
set_option linter.unusedSimpArgs false
namespace Go.Proofs.YtlhpjfnfemebdaaGreat
open Go.RowKit
def Su(g:Gr)(en:List (List Bool))(mode:Int)(inl:List Bool)(s:Int×List Int)(a:Nat):Int×List Int:=
 if(BU g en mode inl a).1<0 then s else
  if 0≤(BU g en mode inl a).2 then((BU g en mode inl a).2,(s.2++(EB g inl s.1 (BU g en mode inl a).1).getD [])++[(a:Int)]) else((BU g en mode inl a).1,s.2++(EB g inl s.1 (BU g en mode inl a).1).getD [])
def Fw(g:Gr)(en:List (List Bool))(mode:Int)(inl:List Bool)(home:Int):Nat→Int×List Int
 | 0=>(home,[])
 | k+1=>Su g en mode inl (Fw g en mode inl home k) k
def Ph(g:Gr)(en:List (List Bool))(mode:Int)(inl:List Bool)(home:Int)(A:Nat):List Int:=(Fw g en mode inl home A).2++(EB g inl (Fw g en mode inl home A).1 home).getD []
structure fA(g:Gr)(en:List (List Bool))(mode:Int)(inl:List Bool)(home:Int)(A:Nat):Prop where
 st:∀k,k≤A→Cz inl (Fw g en mode inl home k).1=true∧0≤(Fw g en mode inl home k).1∧(Fw g en mode inl home k).2.length≤k*100001
 goal:∀k,k<A→(BU g en mode inl k).1<0∨(Cz inl (BU g en mode inl k).1=true∧0≤(BU g en mode inl k).1)
def MR.ints(l:List Int):MR:=⟨fun v w=>Am w v l,fun _ _ _ hb h=>h.below hb⟩
def MR.pairI(l:List Int)(b:Bool):MR:=⟨fun v w=>∃pv,v=.tuple #[pv,.bool b]∧Am w pv l,fun _ _ _ hb ⟨pv,e,h⟩=>⟨pv,e,h.below hb⟩⟩
set_option maxRecDepth 100000 in
set_option maxHeartbeats 64000000 in
theorem TR (v u pv:Value) (g:Gr) (en:List (List Bool)) (A:Nat) (mode:Int) (part:List Int) (w:World) (h:Ao w v g) (hu:AO w u en) (hp:Am w pv part) (hl:part.length≤1000000) (hn:Ad g≤100000) (hne:0<part.length)
 (hgood:AU g en (A:Nat) mode part=true) (hW:fA g en mode (Aj (Ad g) part) (Ay part) A) (hhome:Cz (Aj (Ad g) part) (Ay part)=true∧0≤Ay part):
 Calls Tryz.prog 27 #[v,u,.int .i64 (A:Nat),.int .i64 mode,pv] w fun e w'=>∃rv,e=.returned (.tuple #[rv,.bool true])∧w'.ownsRow w.heap.size 3 1 rv (Ph g en mode (Aj (Ad g) part) (Ay part) A).length ((Ph g en mode (Aj (Ad g) part) (Ay part) A).map (Value.int .i64))∧Below w.heap.size w w':=by
 obtain⟨hRT,hOk,-,-⟩:=CW.1 hgood;have hR:=hRT.right;have hlen:=hRT.len;have hA:A≤100:=by have:=hRT.h1;omega
 have hrows:∀i,i<en.length→(en.getD i []).length=A:=fun i hi=>by have:=hRT.rows i hi;omega
 have hal:(Av g).length≤1000000:=by rw[Gd hR];exact h.sT
 obtain⟨sa,aa,ta,sc,ac,tc,rfl,-⟩:=h.var;have HU:=Aa hu;have HPA:=Aa hp;obtain⟨ua,uc,rfl,-⟩:=hu;obtain⟨pa,pc,rfl,-⟩:=hp;have hb:=Ae w (.cells #[.slice sa g.S.length sc,.slice aa g.A.length ac,.slice ta g.T.length tc] 32);have B0:=Aa hb;have X0:=Aa (Ar w (.cells #[.slice sa g.S.length sc,.slice aa g.A.length ac,.slice ta g.T.length tc] 32));have HG:=Aa (fun(w':World) (hb:Below w.heap.size w w')=>(by have:=Si _ _ _ g en (A:Nat) mode part w' (h.below hb) (HU.out.below hb) (HPA.out.below hb) hl hn;rwa [hgood]at this:Calls Tryz.prog 47 #[.agg #[.slice sa g.S.length sc,.slice aa g.A.length ac,.slice ta g.T.length tc],.slice ua en.length uc,.int .i64 (A:Nat),.int .i64 mode,.slice pa part.length pc] w' fun e w2=>e=.returned (.bool true)∧Below w'.heap.size w' w2));have HLE:=Aa (fun(w':World) (hb:Below w.heap.size w w')=>Pm _ part w' (HPA.out.below hb) hne hl);obtain⟨N,hN⟩:∃N,Ad g=N:=⟨_,rfl⟩;rw[hN]at hW hhome hn hlen ⊢;have HMK:=Aa (fun(w':World) (hb:Below w.heap.size w w')=>Xw _ part N w' (HPA.out.below hb) (by have:=hOk.2;rwa [hN]at this) hn hl);have HML:(Aj N part).length=N:=Cn _ _;have hE:∀e∈Av g,0≤e.1∧e.1<((Aj N part).length:Int)∧0≤e.2.2∧e.2.2<((Aj N part).length:Int):=fun e he=>by
  have h3:=Bt hR he;have h4:=Ap hR;rw[HML];omega
 have HGO:=Aa (fun(w':World) (hb:Below w.heap.size w w') (mv:Value) (hm:Bc w' mv (Aj N part)) (k:Nat) (hk:k<A)=>aL _ _ mv g en mode (Aj N part) k A w' (h.below hb) (HU.out.below hb) hm hE (by rw[HML];omega) hrows hk (by omega) hal);have HIS:=Aa (fun(w':World) (hb:Below w.heap.size w w') (mv:Value) (hm:Bc w' mv (Aj N part)) (src tgt:Nat) hs ht=>Ue _ mv g (Aj N part) src tgt w' (h.below hb) hm hR (by rw[HML,hN]) (by rw[HML];exact hn) hs ht);have HLN:Hid (∀(src tgt:Nat),Cz (Aj N part) (src:Int)=true→((EB g (Aj N part) src tgt).getD []).length≤100000):=Aa (fun src tgt hs=>by
  have:=Ol g (Aj N part) src tgt hs (by omega);rw[HML]at this;omega)
 have WS0:Hid (∀k,k≤A→∃src:Nat,(Fw g en mode (Aj N part) (Ay part) k).1=(src:Int)∧Cz (Aj N part) (src:Int)=true∧(Fw g en mode (Aj N part) (Ay part) k).2.length≤90000000):=Aa (fun k hk=>by
  obtain⟨h1,h2,h3⟩:=hW.st k hk;have h6:k*100001≤100*100001:=Nat.mul_le_mul_right _ (by omega);refine⟨(Fw g en mode (Aj N part) (Ay part) k).1.toNat,by omega,?_,by omega⟩;rw[Int.toNat_of_nonneg h2];exact h1)
 have WG:Hid (∀k,k<A→(BU g en mode (Aj N part) k).1<0∨∃i:Nat,(BU g en mode (Aj N part) k).1=(i:Int)∧Cz (Aj N part) (i:Int)=true):=Aa (fun k hk=>by
  rcases hW.goal k hk with q | ⟨h1,h2⟩
  ·exact .inl q
  ·exact .inr ⟨(BU g en mode (Aj N part) k).1.toNat,by omega,by rw[Int.toNat_of_nonneg h2];exact h1⟩)
 have W1:Hid (∀k,(BU g en mode (Aj N part) k).1<0→Fw g en mode (Aj N part) (Ay part) (k+1)=Fw g en mode (Aj N part) (Ay part) k):=Aa (fun k hk=>by rw[Fw,Su,if_pos hk]);have W2:Hid (∀k,¬(BU g en mode (Aj N part) k).1<0→0≤(BU g en mode (Aj N part) k).2→Fw g en mode (Aj N part) (Ay part) (k+1)=((BU g en mode (Aj N part) k).2,((Fw g en mode (Aj N part) (Ay part) k).2++(EB g (Aj N part) (Fw g en mode (Aj N part) (Ay part) k).1 (BU g en mode (Aj N part) k).1).getD [])++[(k:Int)])):=Aa (fun k hk hm=>by rw[Fw,Su,if_neg hk,if_pos hm]);have W3:Hid (∀k,¬(BU g en mode (Aj N part) k).1<0→¬0≤(BU g en mode (Aj N part) k).2→Fw g en mode (Aj N part) (Ay part) (k+1)=((BU g en mode (Aj N part) k).1,(Fw g en mode (Aj N part) (Ay part) k).2++(EB g (Aj N part) (Fw g en mode (Aj N part) (Ay part) k).1 (BU g en mode (Aj N part) k).1).getD [])):=Aa (fun k hk hm=>by rw[Fw,Su,if_neg hk,if_neg hm]);have W0:Hid (Fw g en mode (Aj N part) (Ay part) 0=(Ay part,[])):=Aa rfl;obtain⟨home,hhm⟩:∃q:Nat,Ay part=(q:Int):=⟨(Ay part).toNat,by have:=hhome.2;omega⟩;have HHM:=Aa hhome.1;unfold Ph;rw[hhm]at HHM HLE WS0 W0 W1 W2 W3 ⊢;rw[hlen]at HG HGO;rw[hlen];clear h hb hRT hOk hR hrows hgood hW hhome hN hE HU HPA hne hhm hal HML;generalize BU g en mode (Aj N part)=GL at*;generalize Fw g en mode (Aj N part) (home:Int)=WW at*;generalize Aj N part=MK at*;generalize EB g MK=IL at*;obtain⟨n,hnn⟩:∃n,part.length=n:=⟨_,rfl⟩;rw[hnn]at HG HLE HMK hl;rw[hnn];clear hnn hlen;go_enter Tryz.func27,Tryz.ntmps27;go_wp2_with (first
  | (go_at_call 29;refine(HLE.out _ B2.out).mono ?_;rintro e w3 ⟨rfl,hb3⟩;have B3:=Aa (B2.out.trans (hb3.mono B2.out.size));have Y0:=Aa (Ah hb3 (Ah C2.out Z0.out));have MM:=Aa (M2.out.below hb3);clear hb3)
  | (go_at_call 48;refine(HMK.out _ B1.out).mono ?_;rintro e w2 ⟨mv,rfl,hm,hb2⟩;have M2:=Aa hm;have B2:=Aa (B1.out.trans (hb2.mono B1.out.size));have C2:=Aa hb2;obtain⟨ma,mc,rfl,-⟩:=hm;clear hb2)
  | (go_at_call 47;refine(HG.out _ B0.out).mono ?_;rintro e w1 ⟨rfl,hb1⟩;have B1:=Aa (B0.out.trans (hb1.mono B0.out.size));have Z0:=Aa (Ah hb1 X0.out);clear hb1))
 clear B0 B1 B2 X0 Z0 C2 M2 HG HMK;go_loopg [13,14,15] A (fun fu atv ov c wr=>∃(k m src:Nat),k+fu=A∧c=.int .i64 k∧atv=.int .i64 (src:Nat)∧Hid ((WW k).1=(src:Int))∧Hid ((WW k).2.length=m)∧Hid (wr.ownsRow w3.heap.size 3 1 ov m ((WW k).2.map (Value.int .i64)))∧Hid (Below w3.heap.size w3 wr))
 case atStart=>exact⟨0,0,home,by omega,rfl,rfl,Aa (by rw[W0.out]),Aa (by rw[W0.out];rfl),Aa (by rw[W0.out];exact CO _ _ _ _),Aa (Ak _ _)⟩
 case round=>
  obtain⟨k,m,src,hk,rfl,rfl,HSR,HM,HO,HB⟩:=hrel;obtain⟨oa,oc,rfl⟩:=CQ HO.out;obtain⟨src',hs1,hs2,hs3⟩:=WS0.out k (by omega);have hee:src=src':=by have:=HSR.out;omega
  subst hee;rw[HM.out]at hs3;have HS1:=Aa hs2;clear hs1 hs2;have hx:=Ah HB.out Y0.out;obtain⟨c0,c1,c2⟩:=DY hx;clear hx;by_cases hlt:k<A
  ·have z1:(k:Int)<(A:Int):=by omega
   have HC:=Aa (HGO.out wr (B3.out.trans (HB.out.mono B3.out.size)) _ (MM.out.below HB.out) k hlt);have hg:=WG.out k hlt;have HW1:=Aa (W1.out k);have HW2:=Aa (W2.out k);have HW3:=Aa (W3.out k);generalize GL k=GK at*;obtain⟨q1,q2⟩:=GK;simp only at hg HW1 HW2 HW3 HC;by_cases hq:q1<0
   ·have E:=Aa (HW1.out (by omega));clear hg c0 c1 c2;have hx:=Ah HB.out Y0.out;obtain⟨c0,c1,c2⟩:=DY hx;clear hx;go_wp2_with (go_at_call 49;refine HC.out.mono ?_;rintro e w4 ⟨rfl,hb4⟩;have HB4:=Aa (HB.out.trans (hb4.mono HB.out.size));have O4:=Aa (Dq HO.out hb4);clear hb4)
    go_roundg (A - (k+1))
    case measure=>omega
    case rel=>exact⟨k+1,m,src,by omega,by simp,rfl,Aa (by rw[E.out];exact HSR.out),Aa (by rw[E.out];exact HM.out),Aa (by rw[E.out];exact O4.out),HB4⟩
   ·obtain⟨i,rfl,hi⟩:∃i:Nat,q1=(i:Int)∧Cz MK (i:Int)=true:=hg.resolve_left hq;have HIN:=Aa hi;have hln:=HLN.out src i HS1.out;clear hg hi;have HLL:Hid ((IL (WW k).1 (i:Int)).getD []=(IL (src:Int) (i:Int)).getD []):=Aa (by rw[HSR.out]);have HCI:=Aa (fun(w':World) (hb:Below wr.heap.size wr w')=>HIS.out w' (B3.out.trans ((HB.out.trans (hb.mono HB.out.size)).mono B3.out.size)) _ (MM.out.below (HB.out.trans (hb.mono HB.out.size))) src i HS1.out HIN.out);by_cases hq2:0≤q2
    ·have E:=Aa (HW2.out (by omega) (by omega));obtain⟨j,rfl⟩:∃j:Nat,q2=(j:Int):=⟨q2.toNat,by omega⟩;rw[HLL.out]at E;generalize (IL (src:Int) (i:Int)).isSome=FD at*;generalize (IL (src:Int) (i:Int)).getD []=LL at*;clear hq HLL;go_wp2_with (first
      | (at_builtin;refine Jr (base:=w3.heap.size) (n:=m+LL.length) (xs:=(WW k).2++LL) (O9.out.alloc _) rfl (.tmp 65) (.tmp 67) rfl rfl rfl (Ss w9 (k:Int)) (m+LL.length+1) rfl (by omega) (by have:=HB9.out.size;simp;omega) ?_;intro a10 c10 w10 hown10 hgr10 hor10 hn10;have HB10:=Aa ((HB9.out.trans ((Ae w9 (.cells #[.int .i64 (k:Nat)] 3)).mono HB9.out.size)).grown hgr10 (by have:=HB9.out.size;simp;omega) (fun q hq=>(O9.out.lt q hq).1));have O10:=Aa hown10;clear hown10 hgr10 hor10 hn10)
      | (at_builtin;refine Jr (base:=w3.heap.size) (n:=m) (xs:=(WW k).2) O5.out rfl (.tmp 59) (.tmp 60) rfl rfl rfl HI5.out (m+LL.length) rfl (by omega) HB5.out.size ?_;intro a9 c9 w9 hown9 hgr9 hor9 hn9;have HB9:=Aa (HB5.out.grown hgr9 HB5.out.size (fun q hq=>(O5.out.lt q hq).1));have O9:=Aa hown9;clear hown9 hgr9 hor9 hn9)
      | (go_at_call 50;refine(HCI.out _ BW4.out).mono ?_;rintro e w5 ⟨rv,rfl,hi5,hb5⟩;obtain⟨ra,rc,rfl,-⟩:=id hi5;have HI5:=Aa hi5;have HB5:=Aa (HB4.out.trans (hb5.mono HB4.out.size));have O5:=Aa (Dq O4.out hb5);clear hb5 hi5)
      | (go_at_call 49;refine HC.out.mono ?_;rintro e w4 ⟨rfl,hb4⟩;have BW4:=Aa hb4;have HB4:=Aa (HB.out.trans (hb4.mono HB.out.size));have O4:=Aa (Dq HO.out hb4);obtain⟨e0,e1,e2⟩:=JN hb4 c0 c1 c2;clear hb4))
     go_roundg (A - (k+1))
     case measure=>omega
     case rel=>exact⟨k+1,m+LL.length+1,j,by omega,by simp,rfl,Aa (by rw[E.out]),Aa (by rw[E.out];simp only[Bs,List.length_singleton];have:=HM.out;omega),Aa (by rw[E.out];exact O10.out),HB10⟩
    ·have E:=Aa (HW3.out (by omega) (by omega));rw[HLL.out]at E;generalize (IL (src:Int) (i:Int)).isSome=FD at*;generalize (IL (src:Int) (i:Int)).getD []=LL at*;clear hq HLL;have hq3:q2<0:=by omega
     go_wp2_with (first
      | (at_builtin;refine Jr (base:=w3.heap.size) (n:=m) (xs:=(WW k).2) O5.out rfl (.tmp 59) (.tmp 60) rfl rfl rfl HI5.out (m+LL.length) rfl (by omega) HB5.out.size ?_;intro a9 c9 w9 hown9 hgr9 hor9 hn9;have HB9:=Aa (HB5.out.grown hgr9 HB5.out.size (fun q hq=>(O5.out.lt q hq).1));have O9:=Aa hown9;clear hown9 hgr9 hor9 hn9)
      | (go_at_call 50;refine(HCI.out _ BW4.out).mono ?_;rintro e w5 ⟨rv,rfl,hi5,hb5⟩;obtain⟨ra,rc,rfl,-⟩:=id hi5;have HI5:=Aa hi5;have HB5:=Aa (HB4.out.trans (hb5.mono HB4.out.size));have O5:=Aa (Dq O4.out hb5);clear hb5 hi5)
      | (go_at_call 49;refine HC.out.mono ?_;rintro e w4 ⟨rfl,hb4⟩;have BW4:=Aa hb4;have HB4:=Aa (HB.out.trans (hb4.mono HB.out.size));have O4:=Aa (Dq HO.out hb4);obtain⟨e0,e1,e2⟩:=JN hb4 c0 c1 c2;clear hb4))
     go_roundg (A - (k+1))
     case measure=>omega
     case rel=>exact⟨k+1,m+LL.length,i,by omega,by simp,rfl,Aa (by rw[E.out]),Aa (by rw[E.out,Bs,HM.out]),Aa (by rw[E.out];exact O9.out),HB9⟩
  ·have hkA:A=k:=by omega
   subst hkA;go_wp2_with fail
   refine ER (fun _=>undef)
    (fun f=>{tmps:=#[.agg #[.slice sa g.S.length sc,.slice aa g.A.length ac,.slice ta g.T.length tc],.slice ua N uc,.int .i64 (A:Nat),.int .i64 mode,.slice pa n pc,.pointer (some ⟨w.heap.size,0,none⟩),undef,undef,undef,undef,.slice none 0 0,.bool false,.slice ma MK.length mc,.int .i64 (src:Nat),.slice oa m oc,.int .i64 (A:Nat),u16,u17,u18,u19,f 20,f 21,.agg #[.slice sa g.S.length sc,.slice aa g.A.length ac,.slice ta g.T.length tc],.slice ua N uc,.int .i64 (A:Nat),.int .i64 mode,.slice pa n pc,.bool true,.bool false,.slice pa n pc,.slice ua N uc,.int .i64 (N:Nat),.slice ma MK.length mc,.slice pa n pc,.int .i64 (home:Nat),.int .i64 (A:Nat),.int .i64 (A:Nat),.bool false,u38,u39,u40,u41,u42,u43,u44,u45,u46,u47,u48,u49,u50,u51,u52,u53,u54,u55,u56,u57,u58,u59,u60,u61,u62,u63,u64,u65,u66,u67,u68,u69,f 70,f 71,f 72,f 73,f 74,f 75,f 76,f 77,f 78,undef,undef,undef,undef],defers:=[]}) (fun j=>match j with | 6=>70 | 7=>77 | 8=>78 | 9=>20 | 10=>21 | j=>j+71)
    (Tx [.of (.eq (.agg #[.slice sa g.S.length sc,.slice aa g.A.length ac,.slice ta g.T.length tc])),.of (.eq (.int .i64 (src:Nat))),.of (.eq (.slice pa n pc)),.of (.eq (.int .i64 (home:Nat))),.of (.eq (.slice ma MK.length mc)),.pairI ((IL (src:Int) (home:Int)).getD []) (IL (src:Int) (home:Int)).isSome,.pairI ((IL (src:Int) (home:Int)).getD []) (IL (src:Int) (home:Int)).isSome,.ints ((IL (src:Int) (home:Int)).getD []),.of (.eq (.bool (IL (src:Int) (home:Int)).isSome)),.ints ((IL (src:Int) (home:Int)).getD []),.of (.eq (.bool (IL (src:Int) (home:Int)).isSome))])
    rfl (by kernel_rfl) (fun i u w w' hb h=>GU hb h) (by kernel_rfl) (by kernel_rfl) ?_ ?_ ?_
   ·intro j hj f v;rcases j with _ | _ | _ | _ | _ | _ | _ | _ | _ | _ | _ | j
    all_goals first | rfl | (simp at hj;omega)
   ·refine⟨?_,?_,?_,?_,?_,?_,?_,?_,?_,?_,?_,trivial⟩
    ·intro f w' hb hd K hK;obtain⟨e0,e1,e2⟩:=JN hb c0 c1 c2;dsimp only;go_simp;exact hK (.agg #[.slice sa g.S.length sc,.slice aa g.A.length ac,.slice ta g.T.length tc]) w' (Ak _ _) rfl
    ·intro f w' hb hd K hK;dsimp only;go_simp;exact hK (.int .i64 (src:Nat)) w' (Ak _ _) rfl
    ·intro f w' hb hd K hK;dsimp only;go_simp;exact hK (.slice pa n pc) w' (Ak _ _) rfl
    ·intro f w' hb hd K hK;have h0:f 73=(.slice pa n pc):=hd 2 (by kernel_rfl);have HO:=Aa (HLE.out w' (B3.out.trans ((HB.out.trans (((Ak _ wr).drew.trans hb).mono HB.out.size)).mono B3.out.size)));dsimp only;go_simp;go_wp2_with (go_at_call 29;refine HO.out.mono ?_;rintro e w2 ⟨rfl,hb2⟩)
     have q:=hK (.int .i64 (home:Nat)) w2 hb2 rfl;simp only[h0]at q;exact q
    ·intro f w' hb hd K hK;dsimp only;go_simp;exact hK (.slice ma MK.length mc) w' (Ak _ _) rfl
    ·intro f w' hb hd K hK;have h0:f 71=(.agg #[.slice sa g.S.length sc,.slice aa g.A.length ac,.slice ta g.T.length tc]):=hd 0 (by kernel_rfl);have h1:f 72=(.int .i64 (src:Nat)):=hd 1 (by kernel_rfl);have h2:f 74=(.int .i64 (home:Nat)):=hd 3 (by kernel_rfl);have h3:f 75=(.slice ma MK.length mc):=hd 4 (by kernel_rfl);have HO:=Aa (HIS.out w' (B3.out.trans ((HB.out.trans (((Ak _ wr).drew.trans hb).mono HB.out.size)).mono B3.out.size)) _ (MM.out.below (HB.out.trans (((Ak _ wr).drew.trans hb).mono HB.out.size))) src home HS1.out HHM.out);dsimp only;go_simp;go_wp2_with (go_at_call 50;refine HO.out.mono ?_;rintro e w2 ⟨pv,rfl,ho,hb2⟩)
     have q:=hK _ w2 hb2 ⟨pv,rfl,ho⟩;simp only[h0,h1,h2,h3]at q;exact q
    ·intro f w' hb hd K hK;obtain⟨pv,h0,ho⟩:∃pv,f 76=.tuple #[pv,(.bool (IL (src:Int) (home:Int)).isSome)]∧Am w' pv ((IL (src:Int) (home:Int)).getD []):=hd 5 (by kernel_rfl);dsimp only;go_simp;have q:=hK _ w' (Ak _ _) ⟨pv,rfl,ho⟩;simp only[h0]at q;exact q
    ·intro f w' hb hd K hK;obtain⟨pv,h0,ho⟩:∃pv,f 70=.tuple #[pv,(.bool (IL (src:Int) (home:Int)).isSome)]∧Am w' pv ((IL (src:Int) (home:Int)).getD []):=hd 6 (by kernel_rfl);dsimp only;go_simp;have q:=hK pv w' (Ak _ _) ho;simp only[h0]at q;exact q
    ·intro f w' hb hd K hK;obtain⟨pv,h0,ho⟩:∃pv,f 70=.tuple #[pv,(.bool (IL (src:Int) (home:Int)).isSome)]∧Am w' pv ((IL (src:Int) (home:Int)).getD []):=hd 6 (by kernel_rfl);dsimp only;go_simp;have q:=hK (.bool (IL (src:Int) (home:Int)).isSome) w' (Ak _ _) rfl;simp only[h0]at q;exact q
    ·intro f w' hb hd K hK;have r0:Am w' (f 77) ((IL (src:Int) (home:Int)).getD []):=hd 7 (by kernel_rfl);clear hd;dsimp only;go_simp;exact hK (f 77) w' (Ak _ _) r0
    ·intro f w' hb hd K hK;have h0:f 78=(.bool (IL (src:Int) (home:Int)).isSome):=hd 8 (by kernel_rfl);dsimp only;go_simp;have q:=hK (.bool (IL (src:Int) (home:Int)).isSome) w' (Ak _ _) rfl;simp only[h0]at q;exact q
   ·intro f w' hb hr;have r4:Am w' (f 20) ((IL (src:Int) (home:Int)).getD []):=hr 9 (by decide);obtain⟨ra,rc,e4,-⟩:=id r4;rw[e4]at r4;have HI4:=Aa r4;have HB4:=Aa (HB.out.trans (hb.mono HB.out.size));have O4:=Aa (Dq HO.out hb);have hl4:=HLN.out src home HS1.out;have HWL:Hid ((WW A).2.length=m):=HM;clear hr hb r4 c0 c1 c2;dsimp only;rw[e4];clear e4;generalize f 70=x70;generalize f 71=x71;generalize f 72=x72;generalize f 73=x73;generalize f 74=x74;generalize f 75=x75;generalize f 76=x76;generalize f 77=x77;generalize f 78=x78;generalize f 21=x21;have HWK:=Aa (show(WW A).2++(IL (WW A).1 (home:Int)).getD []=(WW A).2++(IL (src:Int) (home:Int)).getD [] by rw[HSR.out]);generalize (IL (src:Int) (home:Int)).getD []=LL at*;go_wp2_with (at_builtin;refine Jr (base:=w3.heap.size) (n:=m) (xs:=(WW A).2) O4.out rfl (.tmp 79) (.tmp 80) rfl rfl rfl HI4.out (m+LL.length) rfl (by omega) HB4.out.size ?_;intro a9 c9 w9 hown9 hgr9 hor9 hn9;have HB9:=Aa (HB4.out.grown hgr9 HB4.out.size (fun q hq=>(O4.out.lt q hq).1));have O9:=Aa hown9;clear hown9 hgr9 hor9 hn9)
    refine Bd (v:=.tuple #[.slice a9 (m+LL.length) c9,.bool true]) (by simp[results,Tryz.results27,go_sem]) rfl ?_;exact⟨_,rfl,by rw[HWK.out,Bs,HWL.out];exact FG O9.out B3.out.size,B3.out.trans (HB9.out.mono B3.out.size)⟩
end Go.Proofs.YtlhpjfnfemebdaaGreat
