/- spinnakerlaw19.once: the walk. lasso's Make, where the path -/
import Derived.Test.YtlhpjfnfemebdaaGreatLassoPlain
set_option maxRecDepth 100000
set_option maxHeartbeats 64000000
set_option linter.unusedSimpArgs false
namespace Go.Proofs.YtlhpjfnfemebdaaGreat
open Go.RowKit
theorem Zq(ca:Option Addr)(m cc:Nat)(gS gA gT pv bv:Value)(w:World)(hm:0<m):
 Calls Tryz.prog 25 #[.agg #[.slice ca m cc,gS,gA,gT,pv,bv],.int .i64 0] w fun e w'=>e=.returned (.slice none 0 0)∧Below w.heap.size w w':=by
 have HB:=Aa (Ae w (.cells #[.slice ca m cc,gS,gA,gT,pv,bv] 34));have HR:=Aa (fun(w':World)=>IA (.slice none 0 0) [] w'.heap.size w' (CO _ _ _ _) (by simp));have z1:(0:Int)<(m:Int):=by omega
 have z2:¬((m:Int)≤0):=by omega
 go_enter Tryz.func25,Tryz.ntmps25;go_wp2_with fail
 go_loopg [1,5] 1 (fun fu iv lv wr=>fu=1∧iv=.int .i64 0∧lv=.slice none 0 0∧wr=w.alloc (.cells #[.slice ca m cc,gS,gA,gT,pv,bv] 34))
 case atStart=>exact⟨rfl,rfl,rfl,rfl⟩
 case round=>
  obtain⟨-,rfl,rfl,rfl⟩:=hrel;go_wp2_with (go_at_call 46;refine(HR.out _).mono ?_;rintro e w5 ⟨rfl,-,hf5⟩;have HF5:=Aa (hf5.below (B:=w.heap.size) (fun k hk=>by simp[Value.ownBlock]at hk) HB.out.size);clear hf5)
  go_ret;exact⟨rfl,HB.out.trans HF5.out⟩
theorem aW (u pv:Value) (ca:Option Addr) (m cc:Nat) (gS gA gT qv bv:Value) (g:Gr) (en:List (List Bool)) (ag mode:Int) (part:List Int) (w:World) (h:Ao w (.agg #[gS,gA,gT]) g) (hu:AO w u en) (hp:Am w pv part) (hl:part.length≤1000000) (hn:Ad g≤100000) (hm:0<m)
 (hW:AU g en ag mode part=true→Vu g en ag mode part) (hgood:AU g en ag mode part=true) (h0:Ay part=0):
 Calls Tryz.prog 10 #[.agg #[.slice ca m cc,gS,gA,gT,qv,bv],u,.int .i64 ag,.int .i64 mode,pv] w fun e w'=>∃rv,e=.returned (.tuple #[.slice none 0 0,rv,.bool true])∧Am w' rv (Cc g en ag mode part).2.1∧Below w.heap.size w w':=by
 have hb:=Ae w (.cells #[.slice ca m cc,gS,gA,gT,qv,bv] 34);have B0:=Aa hb;have X0:=Aa (Ar w (.cells #[.slice ca m cc,gS,gA,gT,qv,bv] 34));have HC:=Aa (Ji _ _ _ g en ag mode part _ (h.below hb) (hu.below hb) (hp.below hb) hl hn hW);have HPA:=Aa hp;have HLE:=Aa (fun(w':World) (hb:Below w.heap.size w w')=>(by have:=Nr _ part w' (HPA.out.below hb) (hW hgood).ne hl;rwa [h0]at this:Calls Tryz.prog 26 #[pv] w' fun e w2=>e=.returned (.int .i64 0)∧Below w'.heap.size w' w2));have HT:=Aa (fun(w':World)=>Zq ca m cc gS gA gT qv bv w' hm);rw[hgood]at HC;obtain⟨ua,uc,rfl,-⟩:=hu;obtain⟨pa,pc,rfl,-⟩:=hp;clear h hb hW hgood HPA h0;generalize (Cc g en ag mode part).2.1=WL at*;go_enter Tryz.func10,Tryz.ntmps10;go_wp2_with (go_at_call 15;refine HC.out.mono ?_;rintro e w2 ⟨rv,rfl,hi,hb2⟩;obtain⟨ra,rc,rfl,-⟩:=id hi;have HI:=Aa hi;have B2:=Aa (B0.out.trans (hb2.mono B0.out.size));have Y0:=Aa (Ah hb2 X0.out);clear hb2 hi)
 obtain⟨c0,c1,c2,c3,c4,c5⟩:=JS Y0.out;have f0:∀i:Bk w2,i.1.cell? ⟨w.heap.size,0,none⟩=some (.slice ca m cc):=fun i=>i.cell c0;have f1:∀i:Bk w2,i.1.cell? ⟨w.heap.size,1,none⟩=some gS:=fun i=>i.cell c1;have f2:∀i:Bk w2,i.1.cell? ⟨w.heap.size,2,none⟩=some gA:=fun i=>i.cell c2;have f3:∀i:Bk w2,i.1.cell? ⟨w.heap.size,3,none⟩=some gT:=fun i=>i.cell c3;have f4:∀i:Bk w2,i.1.cell? ⟨w.heap.size,4,none⟩=some qv:=fun i=>i.cell c4;have f5:∀i:Bk w2,i.1.cell? ⟨w.heap.size,5,none⟩=some bv:=fun i=>i.cell c5;have HLE2:=Aa (fun(i:Bk w2)=>HLE.out i.1 (B2.out.trans (i.2.mono B2.out.size)));have HT2:=Aa (fun(i:Bk w2)=>HT.out i.1);clear c0 c1 c2 c3 c4 c5;refine AD (by kernel_rfl) (by kernel_rfl) ?_;repeat (go_big_quiet_step (first
  | (go_at_call 25;exact Calls.sub_of (HT2.out _))
  | (go_at_call 26;exact Calls.sub_of (HLE2.out _))))
 refine wpQuiet_nil ?_;intro w4 hb4;have HI4:=Aa (HI.out.below hb4);have B4:=Aa (B2.out.trans (hb4.mono B2.out.size));clear hb4 f0 f1 f2 f3 f4 f5 HLE2 HT2;go_wp2_with fail
 refine Bd (v:=.tuple #[.slice none 0 0,.slice ra WL.length rc,.bool true]) (by simp[results,Tryz.results10,go_sem]) rfl ?_;exact⟨_,rfl,HI4.out,B4.out⟩
def dB:List Ed:=[(0,0,1),(1,1,0)]
def Hs:Gr:=Iq 2 dB
def t9:List (List Bool):=[[true,false],[false,true]]
theorem hQ:Ai 2 dB=Hs:=rfl
theorem cT:Ad Hs=2:=by decide
theorem dU:Av Hs=dB:=by decide
theorem fX:Rt Hs:=Hf (by decide)
theorem gY:Be Hs=[0,0]:=by
 have h:(DZ (fun _ _=>true) (Ad Hs)).1=GM Hs:=by
  refine Hu fun i k hi hk=>?_;rw[cT]at hi;obtain⟨rfl,rfl⟩:i=1∧k=0:=by omega
  refine⟨fun _=>⟨.one ⟨(1,1,0),by rw[dU];decide,rfl,rfl⟩,.one ⟨(0,0,1),by rw[dU];decide,rfl,rfl⟩⟩,fun _=>rfl⟩
 unfold Be;rw[← h,cT]
 decide
theorem fY:Cd Hs=[[0,1]]:=by
 unfold Cd;rw[gY]
 decide
theorem gH:CV Hs [0,1]=true:=by
 unfold CV;exact Ck ⟨(0,0,1),by rw[dU];decide,by decide,by decide⟩
theorem fW:CV Hs [1,0]=true:=by
 unfold CV;exact Ck ⟨(0,0,1),by rw[dU];decide,by decide,by decide⟩
theorem fU:CV Hs [0]=false:=by
 unfold CV;refine Cj ?_;rintro⟨e,he,h1,h2⟩;rw[dU]at he;simp only[dB,Br,List.not_mem_nil,or_false]at he;rcases he with rfl | rfl <;> simp at h1 h2
theorem eR:RT Hs t9 2:=⟨fX,by omega,by omega,by rw[cT];rfl,by decide,by rw[dU];decide⟩
theorem gO:Bb Hs t9 Ga 2 [0,1]=true:=by unfold Bb;rw[gH];decide
theorem gM:Bb Hs t9 GQ 2 [1,0]=true:=by unfold Bb;rw[fW];decide
theorem gN:Bb Hs t9 Ga 2 [0]=false:=by unfold Bb;rw[fU];rfl
theorem fL(l:List Int)(h:l=[0,1]∨l=[1,0]):Mk (Ad Hs) l:=by
 rw[cT];refine⟨by rcases h with rfl | rfl <;> decide,fun x hx=>?_⟩;have hx:x=0∨x=1:=by rcases h with rfl | rfl <;> simp at hx <;> omega
 rcases hx with rfl | rfl
 ·exact⟨0,rfl,by omega⟩
 ·exact⟨1,rfl,by omega⟩
theorem cO:(Aw Hs (Aj (Ad Hs) [0,1])).length=1:=Uz fX (by decide) (l:=List.replicate (Ad Hs) true) (by rw[← Cr fX (by decide),fY];simp)
theorem hU:Aj (Ad Hs) [1,0]=Aj (Ad Hs) [0,1]:=by decide
theorem XQ:AU Hs t9 2 2 [0,1]=true:=CW.2 ⟨eR,fL _ (.inl rfl),cO,.inr ⟨rfl,gO⟩⟩
theorem eU:AU Hs t9 2 2 [0]=false:=EH fun q=>q.2.2.2.elim (fun z=>absurd z.1 (by omega)) (fun z=>by have h:=z.2;rw[show((2:Int).toNat)=2 from rfl,gN]at h;cases h)
theorem cP:AU Hs t9 2 1 [1,0]=true:=CW.2 ⟨eR,fL _ (.inr rfl),by rw[hU];exact cO,.inl ⟨rfl,gM⟩⟩
theorem Qr:Fs Hs:=by
 intro e he f hf h1 h2;rw[dU]at he hf;simp only[dB,Br,List.not_mem_nil,or_false]at he hf;rcases he with rfl | rfl <;> rcases hf with rfl | rfl <;> simp_all
theorem gK:(Cc Hs t9 2 2 [0,1]).2.1=[0,1]:=by unfold Cc;rw[if_pos XQ];decide
theorem gC:(Cc Hs t9 2 2 [0,1]).2.2=[0,1,0]:=by unfold Cc;rw[if_pos XQ];decide
theorem gR:(Cc Hs t9 2 1 [1,0]).2.1=[0,1]:=by unfold Cc;rw[if_pos cP];decide
theorem gW:Ay [1,0]=0:=by decide
structure K9(w wr:World)(b1:Nat)(c1:Array Value)(G1:Gr)(u:Value):Prop where
 a:TC w wr b1 c1 G1
 t:AO wr u t9
theorem K9.more{w wr w':World}{b1:Nat}{c1:Array Value}{G1:Gr}{u:Value}(h:K9 w wr b1 c1 G1 u)(hb:Below wr.heap.size wr w'):K9 w w' b1 c1 G1 u:=⟨h.a.more hb,h.t.below hb⟩
theorem XA{w w1:World}{cs:Array Value}{G1:Gr}(h:Below w.heap.size w w1)(hg:Ao w1 (.agg cs) G1):
 K9 w ((((w1.alloc (.cells cs 32)).alloc (.cells #[.bool true,.bool false] 4)).alloc (.cells #[.bool false,.bool true] 4)).alloc (.cells #[.slice (some ⟨w1.heap.size+1,0,none⟩) 2 2,.slice (some ⟨w1.heap.size+1+1,0,none⟩) 2 2] 56)) w1.heap.size cs G1 (.slice (some ⟨w1.heap.size+1+1+1,0,none⟩) 2 2):=by
 have k0:=TC.intro h hg;have x1:=AG (w1.alloc (.cells cs 32)) (.cells #[.bool true,.bool false] 4) (w1.heap.size+1) (by simp);have m1:=Ae (w1.alloc (.cells cs 32)) (.cells #[.bool true,.bool false] 4);have x2:=AG ((w1.alloc (.cells cs 32)).alloc (.cells #[.bool true,.bool false] 4)) (.cells #[.bool false,.bool true] 4) (w1.heap.size+1+1) (by simp);have m2:=Ae ((w1.alloc (.cells cs 32)).alloc (.cells #[.bool true,.bool false] 4)) (.cells #[.bool false,.bool true] 4);have x3:=AG (((w1.alloc (.cells cs 32)).alloc (.cells #[.bool true,.bool false] 4)).alloc (.cells #[.bool false,.bool true] 4)) (.cells #[.slice (some ⟨w1.heap.size+1,0,none⟩) 2 2,.slice (some ⟨w1.heap.size+1+1,0,none⟩) 2 2] 56) (w1.heap.size+1+1+1) (by simp);have m3:=Ae (((w1.alloc (.cells cs 32)).alloc (.cells #[.bool true,.bool false] 4)).alloc (.cells #[.bool false,.bool true] 4)) (.cells #[.slice (some ⟨w1.heap.size+1,0,none⟩) 2 2,.slice (some ⟨w1.heap.size+1+1,0,none⟩) 2 2] 56);exact⟨((k0.more m1).more m2).more m3,Wr (Ah m3 (Ah m2 x1)) (Ah m3 x2) x3⟩
structure fS(w wr:World)(b1:Nat)(c1:Array Value)(G1:Gr)(u cv:Value):Prop where
 k:K9 w wr b1 c1 G1 u
 c:Am wr cv [0,1]
theorem fS.more{w wr w':World}{b1:Nat}{c1:Array Value}{G1:Gr}{u cv:Value}(h:fS w wr b1 c1 G1 u cv)(hb:Below wr.heap.size wr w'):fS w w' b1 c1 G1 u cv:=⟨h.k.more hb,h.c.below hb⟩
theorem ZX(w:World):Calls Tryz.prog 5 #[] w fun e w'=>e=.returned (.bool true)∧Below w.heap.size w w':=by
 have E1:=Aa (OI (b:=w.heap.size) (l:=dB) (Ar w _) rfl 2);have HB1:=Aa (JT 2 _ dB _ E1.out (by decide));rw[hQ,show DF 2 dB=0 by decide]at HB1;have HC1:Hid (∀(w':World) (v u p:Value),Ao w' v Hs→AO w' u t9→Am w' p [0,1]→Calls Tryz.prog 15 #[v,u,.int .i64 2,.int .i64 2,p] w' fun e w2=>∃rv,e=.returned (.tuple #[rv,.bool true])∧Am w2 rv [0,1]∧Below w'.heap.size w' w2):=Aa (fun w' v u p h hu hp=>by have:=Ji v u p Hs t9 2 2 [0,1] w' h hu hp (by decide) (by rw[cT];omega) (Nn (by decide) Qr);rwa [XQ,gK]at this);have HC2:Hid (∀(w':World) (v u p:Value),Ao w' v Hs→AO w' u t9→Am w' p [0]→Calls Tryz.prog 15 #[v,u,.int .i64 2,.int .i64 2,p] w' fun e w2=>∃rv,e=.returned (.tuple #[rv,.bool false])∧Am w2 rv (Cc Hs t9 2 2 [0]).2.1∧Below w'.heap.size w' w2):=Aa (fun w' v u p h hu hp=>by have:=Ji v u p Hs t9 2 2 [0] w' h hu hp (by decide) (by rw[cT];omega) (Nn (by decide) Qr);rwa [eU]at this);have HS1:Hid (∀(w':World) (v u p:Value),Ao w' v Hs→AO w' u t9→Am w' p [0,1]→Calls Tryz.prog 16 #[v,u,.int .i64 2,.int .i64 2,p] w' (DC w' [0,1,0])):=Aa (fun w' v u p h hu hp=>by have:=VH v u p Hs t9 2 2 [0,1] w' h hu hp (by decide) (by rw[cT];omega) (Nn (by decide) Qr);rwa [gC]at this);have HMK:Hid (∀(w':World) (u p:Value) (ca:Option Addr) (cc:Nat) (gS gA gT qv bv:Value),Ao w' (.agg #[gS,gA,gT]) Hs→AO w' u t9→Am w' p [1,0]→Calls Tryz.prog 10 #[.agg #[.slice ca 2 cc,gS,gA,gT,qv,bv],u,.int .i64 2,.int .i64 1,p] w' fun e w2=>∃rv,e=.returned (.tuple #[.slice none 0 0,rv,.bool true])∧Am w2 rv [0,1]∧Below w'.heap.size w' w2):=Aa (fun w' u p ca cc gS gA gT qv bv h hu hp=>by have:=aW u p ca 2 cc gS gA gT qv bv Hs t9 2 1 [1,0] w' h hu hp (by decide) (by rw[cT];omega) (by omega) (Nn (by decide) Qr) cP gW;rwa [gR]at this);clear E1;generalize (Cc Hs t9 2 2 [0]).2.1=WNO at*;generalize Hs=G1 at*;go_enter Tryz.func5,Tryz.ntmps5;go_wp2_with (first
  | (go_at_call 12;refine(Ln _ _ [0,1,0] _ (I7.out.below (Ae _ _)) (BQ (xs:=[0,1,0]) (Ar w7 _) rfl 3) (by decide)).mono ?_;rintro e w8 ⟨rfl,hb⟩;have S8:=Aa ((S7.out.more (Ae _ _)).more hb);clear hb)
  | (go_at_call 16;refine(HS1.out _ _ _ _ (S6.out.more (Ae _ _)).k.a.g1 (S6.out.more (Ae _ _)).k.t (BQ (xs:=[0,1]) (Ar w6 _) rfl 2)).mono ?_;rintro e w7 ⟨rv,rfl,hi,hb⟩;obtain⟨ra7,rc7,rfl,-⟩:=id hi;have I7:=Aa hi;have S7:=Aa ((S6.out.more (Ae _ _)).more hb);clear hb hi)
  | (go_at_call 12;refine(Ln _ _ [0,1] _ (S5.out.c.below (Ae _ _)) (BQ (xs:=[0,1]) (Ar w5 _) rfl 2) (by decide)).mono ?_;rintro e w6 ⟨rfl,hb⟩;have S6:=Aa ((S5.out.more (Ae _ _)).more hb);clear c0 c1 c2;obtain⟨c0,c1,c2⟩:=DY S6.out.k.a.l1;clear hb)
  | (go_at_call 10;refine(HMK.out _ _ _ _ _ _ _ _ _ _ (((((S4.out.more (Ae _ _)).more (Ae _ _)).more (Ae _ _)).more (Ae _ _)).more (Ae _ _)).k.a.g1 (((((S4.out.more (Ae _ _)).more (Ae _ _)).more (Ae _ _)).more (Ae _ _)).more (Ae _ _)).k.t (BQ (xs:=[1,0]) (AG _ _ (w4.heap.size+1+1+1+1) (by simp)) rfl 2)).mono ?_;rintro e w5 ⟨rv,rfl,hi,hb⟩;obtain⟨ra5,rc5,rfl,-⟩:=hi;have S5:=Aa ((((((S4.out.more (Ae _ _)).more (Ae _ _)).more (Ae _ _)).more (Ae _ _)).more (Ae _ _)).more hb);clear c0 c1 c2;obtain⟨c0,c1,c2⟩:=DY S5.out.k.a.l1;clear d0 d1 d2 hb)
  | (go_at_call 15;refine(HC2.out _ _ _ _ (S3.out.more (Ae _ _)).k.a.g1 (S3.out.more (Ae _ _)).k.t (BQ (xs:=[0]) (Ar w3 _) rfl 1)).mono ?_;rintro e w4 ⟨rv,rfl,hi,hb⟩;obtain⟨ra4,rc4,rfl,-⟩:=id hi;have S4:=Aa ((S3.out.more (Ae _ _)).more hb);clear c0 c1 c2;obtain⟨c0,c1,c2⟩:=DY S4.out.k.a.l1;obtain⟨d0,d1,d2⟩:=JN (Ae w4 (.cells #[.slice none 0 0,.slice none 0 0,.slice none 0 0,.slice none 0 0,.slice none 0 0,.slice none 0 0,.slice none 0 0,.slice none 0 0] 62)) c0 c1 c2;clear hb hi)
  | (go_at_call 15;refine(HC1.out _ _ _ _ (S2.out.more (Ae _ _)).a.g1 (S2.out.more (Ae _ _)).t (BQ (xs:=[0,1]) (AG _ _ (w1.heap.size+1+1+1+1) (by simp)) rfl 2)).mono ?_;rintro e w3 ⟨rv,rfl,hi,hb⟩;obtain⟨ra3,rc3,rfl,-⟩:=id hi;have S3:=Aa (fS.mk ((S2.out.more (Ae _ _)).more hb) hi);clear c0 c1 c2;obtain⟨c0,c1,c2⟩:=DY S3.out.k.a.l1;clear hb hi)
  | (go_at_call 14;refine HB1.out.mono ?_;rintro e w1 ⟨v1,rfl,hG,hb⟩;obtain⟨s1,a1,t1,p1,q1,r1,rfl,-⟩:=hG.var;have S2:=Aa (XA ((Ae w _).trans (hb.mono (by simp))) hG);obtain⟨c0,c1,c2⟩:=DY S2.out.a.l1;clear hb hG))
 go_ret;exact⟨rfl,S8.out.k.a.below⟩
end Go.Proofs.YtlhpjfnfemebdaaGreat
