/- lasso's reach: the walker goes to a node. (Written by -/
import Derived.Test.YtlhpjfnfemebdaaGreatWalkA
set_option linter.unusedSimpArgs false
namespace Go.Proofs.YtlhpjfnfemebdaaGreat
open Go.RowKit
def MR.own(B:Nat)(l:List Int):MR:=⟨fun v w=>w.ownsRow B 3 1 v l.length (l.map (Value.int .i64)),fun _ _ _ hb h=>Dq h hb⟩
def MR.pair(B:Nat)(l:List Int)(b:Bool):MR:=⟨fun v w=>∃pv,v=.tuple #[pv,.bool b]∧w.ownsRow B 3 1 pv l.length (l.map (Value.int .i64)),fun _ _ _ hb ⟨pv,e,h⟩=>⟨pv,e,Dq h hb⟩⟩
set_option maxRecDepth 100000 in
set_option maxHeartbeats 16000000 in
theorem We {w0 wo:World} {g:Gr} {gS gA gT:Value} {wb ib:Nat} {inl:List Bool} {s:WS} {wv sv:Value} (h:Fp w0 wo gS gA gT wb ib inl s.1 s.2.1 s.2.2 wv sv) (hG:Ao w0 (.agg #[gS,gA,gT]) g) (hR:Rt g) (hl:inl.length=Ad g) (hlim:inl.length≤100000)
 (src t:Nat) (hsrc:s.1=(src:Int)) (hs:Cz inl (src:Int)=true) (ht:Cz inl (t:Int)=true) (hwl:s.2.1.length≤900000000) (hsl:s.2.2.length≤900000000):
 Calls Tryz.prog 56 #[.pointer (some ⟨wb,0,none⟩),.int .i64 (t:Nat)] wo fun e w'=>e=.returned (.tuple #[])∧∃wv' sv',Fp w0 w' gS gA gT wb ib inl (Da g inl s (t:Int)).1 (Da g inl s (t:Int)).2.1 (Da g inl s (t:Int)).2.2 wv' sv'∧KQ wb wv sv wo wv' sv' w':=by
 have c0:=h.cell 0 _ rfl;have c1:=h.cell 1 _ rfl;have c2:=h.cell 2 _ rfl;have c3:wo.cell? ⟨wb,3,none⟩=some (GJ ib inl.length):=h.cell 3 _ rfl;have c4:wo.cell? ⟨wb,4,none⟩=some (.int .i64 (src:Nat)):=by rw[← hsrc];exact h.cell 4 _ rfl
 have HI:=Aa (fun(w':World) (hb:Below wo.heap.size wo w')=>Wt _ _ g inl src t w' (hG.below (h.below.trans (hb.mono h.below.size))) (h.mask.below hb) hR hl hlim hs ht);have HL:=Aa (Ol g inl src t hs (by omega));obtain⟨l,hll⟩:∃l,(EB g inl src t).getD []=l:=⟨_,rfl⟩;rw[hll]at HL HI;have RE:Hid (Da g inl s (t:Int)=Ip g s (l.take l.length)):=Aa (by unfold Da;rw[hsrc,hll,Ez]);obtain⟨ST,hST⟩:∃f:Nat→WS,∀k,f k=Ip g s (l.take k):=⟨fun k=>Ip g s (l.take k),fun _=>rfl⟩;have S0:ST 0=s:=by rw[hST];rfl
 have SS:Hid (∀k,k<l.length→ST (k+1)=Kb g (ST k) (l.getD k 0)):=Aa (fun k hk=>by rw[hST,hST];exact Wp hk);have SL:Hid (∀k,k<l.length→(ST k).2.1.length≤1000000000∧(ST k).2.2.length≤1000000000):=Aa (fun k hk=>by
  have h1:=Ot g (l.take k) s;have h2:=HL.out;rw[List.length_take]at h1;rw[hST];omega)
 rw[← hST]at RE;rw[RE.out];clear RE hST hll;have HIB:Hid (∀(w':World),Below wo.heap.size wo w'→Calls Tryz.prog 84 #[.agg #[gS,gA,gT],.int .i64 (src:Nat),.int .i64 (t:Nat),GJ ib inl.length] w' fun e w2=>∃pv,e=.returned (.tuple #[pv,.bool (EB g inl src t).isSome])∧w2.ownsRow wo.heap.size 3 1 pv l.length (l.map (Value.int .i64))∧Below w'.heap.size w' w2):=Aa (fun w' hb=>(HI.out w' hb).mono (fun e w2 ⟨pv,e1,ho,hb2⟩=>⟨pv,e1,FG ho hb.size,hb2⟩));clear HI;have H0:=Aa (show Fp w0 wo gS gA gT wb ib inl (ST 0).1 (ST 0).2.1 (ST 0).2.2 wv sv by rw[S0];exact h);have HA:=Aa (fun(w':World) (wv' sv':Value) (k:Nat) (hk:k<l.length) (hM:Fp w0 w' gS gA gT wb ib inl (ST k).1 (ST k).2.1 (ST k).2.2 wv' sv')=>(by
  have:=Zm hM hG (l.getD k 0) (SL.out k hk).1 (SL.out k hk).2;refine this.mono ?_;rintro e w2 ⟨e1,wv2,sv2,h1,h2⟩;rw[SS.out k hk];exact⟨e1,wv2,sv2,h1,h2⟩:Calls Tryz.prog 57 #[.pointer (some ⟨wb,0,none⟩),.int .i64 (l.getD k 0)] w' fun e w2=>e=.returned (.tuple #[])∧∃wv2 sv2,Fp w0 w2 gS gA gT wb ib inl (ST (k+1)).1 (ST (k+1)).2.1 (ST (k+1)).2.2 wv2 sv2∧KQ wb wv' sv' w' wv2 sv2 w2))
 have AP:Hid (∀v n xs (w':World),w'.ownsRow wo.heap.size 3 1 v n xs→UU v wv sv):=Aa (fun v n xs w' ho q hq=>by
  have h1:=(ho.lt q hq).1;exact⟨fun e=>by have:=(h.rw.lt q e).2;omega,fun e=>by have:=(h.rs.lt q e).2;omega⟩)
 have hll:=HL.out;clear h hG hR hl hs ht hwl hsl S0 SS SL HL hsrc;generalize (EB g inl src t).isSome=FD at*;unfold GJ at c3 HIB;generalize inl.length=il at*;go_enter Tryz.func56,Tryz.ntmps56;go_wp2_with fail
 refine ER (fun _=>undef)
  (fun f=>{tmps:=#[.pointer (some ⟨wb,0,none⟩),.int .i64 (t:Nat),undef,undef,f 4,f 5,undef,undef,f 8,f 9,f 10,f 11,f 12,f 13,f 14,f 15,f 16,f 17,f 18,f 19,f 20,f 21,f 22,f 23,f 24,undef,undef,undef,undef,undef,undef,undef,undef,undef,undef],defers:=[]}) (fun j=>if j≤13 then j+9 else if j=14 then 8 else if j=15 then 23 else if j=16 then 24 else j - 13)
  (Tx [.of (.eq (.pointer (some ⟨wb,0,none⟩))),.of (.eq (.pointer (some ⟨wb,0,none⟩))),.of (.eq (.pointer (some ⟨wb,0,none⟩))),.of (.eq (.agg #[gS,gA,gT])),.of (.eq (.pointer (some ⟨wb,0,none⟩))),.of (.eq (.pointer (some ⟨wb,0,none⟩))),.of (.eq (.pointer (some ⟨wb,4,none⟩))),.of (.eq (.int .i64 (src:Nat))),.of (.eq (.int .i64 (t:Nat))),.of (.eq (.pointer (some ⟨wb,0,none⟩))),.of (.eq (.pointer (some ⟨wb,0,none⟩))),.of (.eq (.pointer (some ⟨wb,3,none⟩))),.of (.eq (.slice (some ⟨ib,0,none⟩) il il)),.pair wo.heap.size l FD,.pair wo.heap.size l FD,.own wo.heap.size l,.of (.eq (.bool FD)),.own wo.heap.size l,.of (.eq (.bool FD))])
  rfl (by kernel_rfl) (fun i u w w' hb h=>GU hb h) (by kernel_rfl) (by kernel_rfl) ?_ ?_ ?_
 ·intro j hj f v;rcases j with _ | _ | _ | _ | _ | _ | _ | _ | _ | _ | _ | _ | _ | _ | _ | _ | _ | _ | _ | j
  all_goals first | rfl | (simp at hj;omega)
 ·refine⟨?_,?_,?_,?_,?_,?_,?_,?_,?_,?_,?_,?_,?_,?_,?_,?_,?_,?_,?_,trivial⟩
  ·intro f w' hb hd K hK;dsimp only;go_simp;exact hK (.pointer (some ⟨wb,0,none⟩)) w' (Ak _ _) rfl
  ·intro f w' hb hd K hK;have h0:f 9=(.pointer (some ⟨wb,0,none⟩)):=hd 0 (by kernel_rfl);dsimp only;go_simp;have q:=hK (.pointer (some ⟨wb,0,none⟩)) w' (Ak _ _) rfl;simp only[h0]at q;exact q
  ·intro f w' hb hd K hK;have h0:f 10=(.pointer (some ⟨wb,0,none⟩)):=hd 1 (by kernel_rfl);dsimp only;go_simp;have q:=hK (.pointer (some ⟨wb,0,none⟩)) w' (Ak _ _) rfl;simp only[h0]at q;exact q
  ·intro f w' hb hd K hK;have h0:f 11=(.pointer (some ⟨wb,0,none⟩)):=hd 2 (by kernel_rfl);obtain⟨e0,e1,e2⟩:=JN hb c0 c1 c2;dsimp only;go_simp;have q:=hK (.agg #[gS,gA,gT]) w' (Ak _ _) rfl;simp only[h0]at q;exact q
  ·intro f w' hb hd K hK;dsimp only;go_simp;exact hK (.pointer (some ⟨wb,0,none⟩)) w' (Ak _ _) rfl
  ·intro f w' hb hd K hK;have h0:f 13=(.pointer (some ⟨wb,0,none⟩)):=hd 4 (by kernel_rfl);dsimp only;go_simp;have q:=hK (.pointer (some ⟨wb,0,none⟩)) w' (Ak _ _) rfl;simp only[h0]at q;exact q
  ·intro f w' hb hd K hK;have h0:f 14=(.pointer (some ⟨wb,0,none⟩)):=hd 5 (by kernel_rfl);dsimp only;go_simp;have q:=hK (.pointer (some ⟨wb,4,none⟩)) w' (Ak _ _) rfl;simp only[h0]at q;exact q
  ·intro f w' hb hd K hK;have h0:f 15=(.pointer (some ⟨wb,4,none⟩)):=hd 6 (by kernel_rfl);have e0:=Af hb c4;dsimp only;go_simp;have q:=hK (.int .i64 (src:Nat)) w' (Ak _ _) rfl;simp only[h0]at q;exact q
  ·intro f w' hb hd K hK;dsimp only;go_simp;exact hK (.int .i64 (t:Nat)) w' (Ak _ _) rfl
  ·intro f w' hb hd K hK;dsimp only;go_simp;exact hK (.pointer (some ⟨wb,0,none⟩)) w' (Ak _ _) rfl
  ·intro f w' hb hd K hK;have h0:f 18=(.pointer (some ⟨wb,0,none⟩)):=hd 9 (by kernel_rfl);dsimp only;go_simp;have q:=hK (.pointer (some ⟨wb,0,none⟩)) w' (Ak _ _) rfl;simp only[h0]at q;exact q
  ·intro f w' hb hd K hK;have h0:f 19=(.pointer (some ⟨wb,0,none⟩)):=hd 10 (by kernel_rfl);dsimp only;go_simp;have q:=hK (.pointer (some ⟨wb,3,none⟩)) w' (Ak _ _) rfl;simp only[h0]at q;exact q
  ·intro f w' hb hd K hK;have h0:f 20=(.pointer (some ⟨wb,3,none⟩)):=hd 11 (by kernel_rfl);have e0:=Af hb c3;dsimp only;go_simp;have q:=hK (.slice (some ⟨ib,0,none⟩) il il) w' (Ak _ _) rfl;simp only[h0]at q;exact q
  ·intro f w' hb hd K hK;have h0:f 12=(.agg #[gS,gA,gT]):=hd 3 (by kernel_rfl);have h1:f 16=(.int .i64 (src:Nat)):=hd 7 (by kernel_rfl);have h2:f 17=(.int .i64 (t:Nat)):=hd 8 (by kernel_rfl);have h3:f 21=(.slice (some ⟨ib,0,none⟩) il il):=hd 12 (by kernel_rfl);have HO:=Aa (HIB.out w' ((Ak _ wo).drew.trans hb));dsimp only;go_simp;go_wp2_with (go_at_call 84;refine HO.out.mono ?_;rintro e w2 ⟨pv,rfl,ho,hb2⟩)
   have q:=hK _ w2 hb2 ⟨pv,rfl,ho⟩;simp only[h0,h1,h2,h3]at q;exact q
  ·intro f w' hb hd K hK;obtain⟨pv,h0,ho⟩:∃pv,f 22=.tuple #[pv,.bool FD]∧w'.ownsRow wo.heap.size 3 1 pv l.length (l.map (Value.int .i64)):=hd 13 (by kernel_rfl);dsimp only;go_simp;have q:=hK _ w' (Ak _ _) ⟨pv,rfl,ho⟩;simp only[h0]at q;exact q
  ·intro f w' hb hd K hK;obtain⟨pv,h0,ho⟩:∃pv,f 8=.tuple #[pv,.bool FD]∧w'.ownsRow wo.heap.size 3 1 pv l.length (l.map (Value.int .i64)):=hd 14 (by kernel_rfl);dsimp only;go_simp;have q:=hK pv w' (Ak _ _) ho;simp only[h0]at q;exact q
  ·intro f w' hb hd K hK;obtain⟨pv,h0,ho⟩:∃pv,f 8=.tuple #[pv,.bool FD]∧w'.ownsRow wo.heap.size 3 1 pv l.length (l.map (Value.int .i64)):=hd 14 (by kernel_rfl);dsimp only;go_simp;have q:=hK (.bool FD) w' (Ak _ _) rfl;simp only[h0]at q;exact q
  ·intro f w' hb hd K hK;have r0:w'.ownsRow wo.heap.size 3 1 (f 23) l.length (l.map (Value.int .i64)):=hd 15 (by kernel_rfl);clear hd;dsimp only;go_simp;exact hK (f 23) w' (Ak _ _) r0
  ·intro f w' hb hd K hK;have h0:f 24=(.bool FD):=hd 16 (by kernel_rfl);dsimp only;go_simp;have q:=hK (.bool FD) w' (Ak _ _) rfl;simp only[h0]at q;exact q
 ·intro f w' hb hr;have r4:w'.ownsRow wo.heap.size 3 1 (f 4) l.length (l.map (Value.int .i64)):=hr 17 (by decide);obtain⟨pa,pc,e4⟩:=CQ r4;rw[e4]at r4;have HRW:=Aa r4;have H6:=Aa (H0.out.more hb);have F6:=Aa (KQ.of_below (wb:=wb) (wv:=wv) (sv:=sv) hb);have AP6:=Aa (AP.out _ _ _ _ r4);clear hr hb r4 c0 c1 c2 c3 c4 AP H0;dsimp only;rw[e4];clear e4;generalize f 9=x9;generalize f 10=x10;generalize f 11=x11;generalize f 12=x12;generalize f 13=x13;generalize f 14=x14;generalize f 15=x15;generalize f 16=x16;generalize f 17=x17;generalize f 18=x18;generalize f 19=x19;generalize f 20=x20;generalize f 21=x21;generalize f 22=x22;generalize f 8=x8;generalize f 23=x23;generalize f 24=x24;generalize f 5=x5;go_wp2_with fail
  go_loopg [27] l.length (fun fu c wr=>∃(k:Nat) (wv1 sv1:Value),k+fu=l.length∧c=.int .i64 k∧Hid (Fp w0 wr gS gA gT wb ib inl (ST k).1 (ST k).2.1 (ST k).2.2 wv1 sv1)∧Hid (KQ wb wv sv wo wv1 sv1 wr)∧Hid (wr.ownsRow wo.heap.size 3 1 (.slice pa l.length pc) l.length (l.map (Value.int .i64)))∧Hid (UU (.slice pa l.length pc) wv1 sv1))
  case atStart=>exact⟨0,wv,sv,by omega,rfl,H6,F6,HRW,AP6⟩
  case round=>
   clear H6 F6 HRW AP6;obtain⟨k,wv1,sv1,hk,rfl,HM,HF,HO,HP⟩:=hrel;by_cases hlt:k<l.length
   ·obtain⟨a',c',e',hcl⟩:=DU HO.out;simp only[Value.slice.injEq,true_and]at e';obtain⟨rfl,rfl⟩:=e';obtain⟨b1,o1,rfl,y1⟩:=hcl k hlt;have z1:(k:Int)<(l.length:Int):=by omega
    have HC:=Aa (HA.out wr wv1 sv1 k hlt HM.out);clear hcl;generalize l.getD k 0=a at*;go_wp2_with (go_at_call 57;refine HC.out.mono ?_;rintro e w7 ⟨rfl,wv2,sv2,hM7,hF7⟩;have HM7:=Aa hM7;have HR7:=Aa (hF7.row HM.out HO.out HP.out);have HF7:=Aa (HF.out.trans hF7);clear hM7 hF7)
    go_roundg (l.length - (k+1))
    case measure=>omega
    case rel=>exact⟨k+1,wv2,sv2,by omega,by simp,HM7,HF7,Aa HR7.out.1,Aa HR7.out.2⟩
   ·obtain rfl:k=l.length:=by omega
    have z1:¬(l.length:Int)<(l.length:Int):=by omega
    go_wp2_with fail
    go_end0
    exact⟨rfl,_,_,HM.out,HF.out⟩
def GF(g:Gr)(inl:List Bool)(n a:Nat):Int:=Fq (fun i=>inl.getD i false&&Mi g inl (a:Int) i) n
def Il(en:List (List Bool))(inl:List Bool)(n a:Nat):Int:=Fq (JL en inl a) n
def Ij(g:Gr)(en:List (List Bool))(mode:Int)(inl:List Bool)(n:Nat)(s:WS)(a:Nat):WS:=
 if GF g inl n a=-1 then(if mode=1 then Da g inl s (Il en inl n a) else s) else Kb g (Da g inl s (GF g inl n a)) (a:Int)
def Jy(g:Gr)(en:List (List Bool))(mode:Int)(inl:List Bool)(n:Nat)(home:Int):Nat→WS
 | 0=>(home,[],[home])
 | k+1=>Ij g en mode inl n (Jy g en mode inl n home k) k
def Gx(g:Gr)(en:List (List Bool))(mode:Int)(inl:List Bool)(n:Nat)(home:Int)(A:Nat):WS:=Da g inl (Jy g en mode inl n home A) home
structure eZ(g:Gr)(en:List (List Bool))(mode:Int)(inl:List Bool)(n:Nat)(home:Int)(A:Nat):Prop where
 st:∀k,k≤A→Cz inl (Jy g en mode inl n home k).1=true∧0≤(Jy g en mode inl n home k).1∧(Jy g en mode inl n home k).2.1.length≤k*100001∧(Jy g en mode inl n home k).2.2.length≤k*100001+1
 mid:∀k,k<A→GF g inl n k≠-1→Cz inl (GF g inl n k)=true∧0≤GF g inl n k
 idle:∀k,k<A→GF g inl n k=-1→mode=1→Cz inl (Il en inl n k)=true∧0≤Il en inl n k
theorem Fp.start {w0 wr:World} {gS gA gT:Value} {wb mb sb vb N:Nat} {home:Int} (hb:Below w0.heap.size w0 wr) (h8:wr.heap[wb]?=some (.cells #[gS,gA,gT,GJ mb N,.int .i64 home,.slice none 0 0,.slice (some ⟨sb,0,none⟩) 1 1] 80 (0,0))) (hm:wr.heap[mb]?=some (.cells (bools (List.replicate N false)) 4 (0,0)))
 (hs:wr.heap[sb]?=some (.cells #[.int .i64 home] 3 (0,0))) (hv:wr.heap[vb]?=some (.cells #[.pointer none] 76 (0,0))) (hd:w0.heap.size≤wb∧w0.heap.size≤mb∧w0.heap.size≤sb∧w0.heap.size≤vb):
 Fp w0 (wr.setCell ⟨vb,0,none⟩ (.pointer (some ⟨wb,0,none⟩))) gS gA gT wb mb (List.replicate N false) home [] [home] (.slice none 0 0) (.slice (some ⟨sb,0,none⟩) 1 1)∧(wr.setCell ⟨vb,0,none⟩ (.pointer (some ⟨wb,0,none⟩))).heap[vb]?=some (.cells #[.pointer (some ⟨wb,0,none⟩)] 76 (0,0))∧
  ∀(k:Nat) (o:Obj),k≠vb→wr.heap[k]?=some o→(wr.setCell ⟨vb,0,none⟩ (.pointer (some ⟨wb,0,none⟩))).heap[k]?=some o:=by
 obtain⟨d1,d2,d3,d4⟩:=hd;have hf:Bn (fun q=>q=vb) wr (wr.setCell ⟨vb,0,none⟩ (.pointer (some ⟨wb,0,none⟩))):=(Bn.refl (fun q=>q=vb) wr).setCell (p:=⟨vb,0,none⟩) (fun _=>rfl) _;have n1:wb≠vb:=fun e=>by rw[e,hv]at h8;simp at h8
 have n2:mb≠vb:=fun e=>by rw[e,hv]at hm;simp at hm
 have n3:sb≠vb:=fun e=>by rw[e,hv]at hs;simp at hs
 refine⟨⟨hb.setCell (p:=⟨vb,0,none⟩) d4 _,?_,hf.heap hm n2,CO _ _ _ _,⟨rfl,.inr ⟨sb,1,#[.int .i64 home],rfl,d3,hf.heap hs n3,AQ _,by decide,rfl,rfl⟩⟩,fun q hq=>by simp[Value.ownBlock]at hq,d1,d2⟩,?_,fun k o hk ho=>hf.heap ho hk⟩
 ·rw[List.length_replicate];exact hf.heap h8 n1
 ·rw[Ac hv];rfl
theorem Fp.setIn{w0 wr:World}{gS gA gT:Value}{wb ib:Nat}{inl:List Bool}{at_:Int}{went stops:List Int}{wv sv:Value}(h:Fp w0 wr gS gA gT wb ib inl at_ went stops wv sv)(q:Nat)(b:Bool):
 Fp w0 (wr.setCell ⟨ib,q,none⟩ (.bool b)) gS gA gT wb ib (inl.set q b) at_ went stops wv sv∧∀(k:Nat) (o:Obj),k≠ib→wr.heap[k]?=some o→(wr.setCell ⟨ib,q,none⟩ (.bool b)).heap[k]?=some o:=by
 have hf:Bn (fun k=>k=ib) wr (wr.setCell ⟨ib,q,none⟩ (.bool b)):=(Bn.refl (fun k=>k=ib) wr).setCell (p:=⟨ib,q,none⟩) (fun _=>rfl) _;obtain⟨n1,n2,n3⟩:=h.ne;refine⟨⟨h.below.setCell (p:=⟨ib,q,none⟩) h.d.2 _,?_,?_,Al h.rw hf (fun k hk=>(n2 k hk).2),Al h.rs hf (fun k hk=>(n3 k hk).2),h.off,h.d⟩,fun k o hk ho=>hf.heap ho hk⟩
 ·rw[List.length_set];exact hf.heap h.hs n1
 ·rw[Ac h.hi,EW]
theorem KQ.block{wb:Nat}{wv sv wv' sv':Value}{w w' w0:World}{gS gA gT:Value}{ib:Nat}{inl:List Bool}{at_:Int}{went stops:List Int}(h:KQ wb wv sv w wv' sv' w')(hM:Fp w0 w gS gA gT wb ib inl at_ went stops wv sv){k:Nat}{c:Array Value}{t:TypeId}{fr:Nat×Nat}(hk:w.heap[k]?=some (.cells c t fr))(h1:t≠3)(h2:t≠80):w'.heap[k]?=some (.cells c t fr):=by
 refine h.frm.heap hk (fun hF=>?_);rcases hF with e | e | e
 ·rw[e,hM.hs]at hk;simp at hk;exact h2 hk.2.1.symm
 ·obtain⟨c',e2⟩:=Ca hM.rw e;rw[hk]at e2;simp at e2;exact h1 e2.2.1
 ·obtain⟨c',e2⟩:=Ca hM.rs e;rw[hk]at e2;simp at e2;exact h1 e2.2.1
theorem KQ.newer{wb:Nat}{wv sv wv' sv':Value}{w w' w0 wa:World}{gS gA gT:Value}{ib:Nat}{inl:List Bool}{at_:Int}{went stops:List Int}(h:KQ wb wv sv w wv' sv' w')(hM:Fp w0 wa gS gA gT wb ib inl at_ went stops wv sv){k:Nat}{o:Obj}(hk:w.heap[k]?=some o)(h1:wa.heap.size≤k):w'.heap[k]?=some o:=by
 refine h.frm.heap hk (fun hF=>?_);rcases hF with e | e | e
 ·have:=(BO.1 hM.hs).1;omega
 ·have:=(hM.rw.lt k e).2;omega
 ·have:=(hM.rs.lt k e).2;omega
end Go.Proofs.YtlhpjfnfemebdaaGreat
