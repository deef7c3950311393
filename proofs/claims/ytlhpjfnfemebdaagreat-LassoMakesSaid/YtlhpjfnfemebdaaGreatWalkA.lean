/- lasso's walker: its memory, and a step along an edge. -/
import Derived.Test.YtlhpjfnfemebdaaGreatRInWalk
import Derived.Test.YtlhpjfnfemebdaaGreatJFairC
import Derived.Deep.RegionLaw
import Derived.StillTailTactics
set_option maxRecDepth 100000
set_option maxHeartbeats 64000000
set_option linter.unusedSimpArgs false
namespace Go.Proofs.YtlhpjfnfemebdaaGreat
open Go.RowKit
structure Fp(w0 wr:World)(gS gA gT:Value)(wb ib:Nat)(inl:List Bool)(at_:Int)(went stops:List Int)(wv sv:Value):Prop where
 below:Below w0.heap.size w0 wr
 hs:wr.heap[wb]?=some (.cells #[gS,gA,gT,GJ ib inl.length,.int .i64 at_,wv,sv] 80 (0,0))
 hi:wr.heap[ib]?=some (.cells (bools inl) 4 (0,0))
 rw:wr.ownsRow w0.heap.size 3 1 wv went.length (went.map (Value.int .i64))
 rs:wr.ownsRow w0.heap.size 3 1 sv stops.length (stops.map (Value.int .i64))
 off:∀q,wv.ownBlock=some q→sv.ownBlock≠some q
 d:w0.heap.size≤wb∧w0.heap.size≤ib
section
variable {w0 wr:World} {gS gA gT:Value} {wb ib:Nat} {inl:List Bool} {at_:Int} {went stops:List Int} {wv sv:Value}
theorem Fp.more(h:Fp w0 wr gS gA gT wb ib inl at_ went stops wv sv){w':World}(hb:Below wr.heap.size wr w'):Fp w0 w' gS gA gT wb ib inl at_ went stops wv sv:=
 ⟨h.below.trans (hb.mono h.below.size),Ah hb h.hs,Ah hb h.hi,Dq h.rw hb,Dq h.rs hb,h.off,h.d⟩
theorem Fp.cell(h:Fp w0 wr gS gA gT wb ib inl at_ went stops wv sv)(i:Nat)(v:Value)(hi:#[gS,gA,gT,GJ ib inl.length,.int .i64 at_,wv,sv][i]?=some v):wr.cell? ⟨wb,i,none⟩=some v:=Ab h.hs i v hi
theorem Fp.free(h:Fp w0 wr gS gA gT wb ib inl at_ went stops wv sv)(i:Nat):wr.frozen? ⟨wb,i,none⟩=false:=Ag h.hs i
theorem Fp.mask(h:Fp w0 wr gS gA gT wb ib inl at_ went stops wv sv):Bc wr (GJ ib inl.length) inl:=
 ⟨some ⟨ib,0,none⟩,inl.length,rfl,fun j hj=>⟨ib,0,rfl,by rw[Nat.zero_add];exact Ab h.hi j _ (Co _ j hj)⟩⟩
theorem Fp.ne(h:Fp w0 wr gS gA gT wb ib inl at_ went stops wv sv):wb≠ib∧(∀q,wv.ownBlock=some q→q≠wb∧q≠ib)∧(∀q,sv.ownBlock=some q→q≠wb∧q≠ib):=by
 have h1:=h.hs;have h2:=h.hi;refine⟨fun e=>?_,fun q hq=>⟨fun e=>?_,fun e=>?_⟩,fun q hq=>⟨fun e=>?_,fun e=>?_⟩⟩
 ·rw[e,h2]at h1;simp at h1
 ·obtain⟨c,e2⟩:=Ca h.rw hq;rw[e,h1]at e2;simp at e2
 ·obtain⟨c,e2⟩:=Ca h.rw hq;rw[e,h2]at e2;simp at e2
 ·obtain⟨c,e2⟩:=Ca h.rs hq;rw[e,h1]at e2;simp at e2
 ·obtain⟨c,e2⟩:=Ca h.rs hq;rw[e,h2]at e2;simp at e2
theorem Fp.frm(_h:Fp w0 wr gS gA gT wb ib inl at_ went stops wv sv)(i:Nat)(v:Value):Bn (fun q=>q=wb) wr (wr.setCell ⟨wb,i,none⟩ v):=(Bn.refl (fun q=>q=wb) wr).setCell (p:=⟨wb,i,none⟩) (fun _=>rfl) _
theorem Fp.setAt(h:Fp w0 wr gS gA gT wb ib inl at_ went stops wv sv)(x:Int):Fp w0 (wr.setCell ⟨wb,4,none⟩ (.int .i64 x)) gS gA gT wb ib inl x went stops wv sv:=by
 have hf:=h.frm 4 (.int .i64 x);obtain⟨n1,n2,n3⟩:=h.ne;refine⟨h.below.setCell (p:=⟨wb,4,none⟩) h.d.1 _,?_,hf.heap h.hi (Ne.symm n1),Al h.rw hf (fun q hq=>(n2 q hq).1),Al h.rs hf (fun q hq=>(n3 q hq).1),h.off,h.d⟩;rw[Ac h.hs];rfl
theorem Fp.pushWent (h:Fp w0 wr gS gA gT wb ib inl at_ went stops wv sv) (x:Int) (m:Nat) (hm:went.length=m) {w2 w4:World} {g cap:Nat} (h2:Below wr.heap.size wr w2)
  (hg:w2.grownBy w4 wv.ownBlock) (hor:wv.ownBlock=some g∨g=w2.heap.size) (hown:w4.ownsRow w0.heap.size 3 1 (.slice (some ⟨g,0,none⟩) (m+1) cap) (m+1) (went.map (Value.int .i64)++[.int .i64 x])):
  w4.cell? ⟨wb,5,none⟩=some wv∧w4.frozen? ⟨wb,5,none⟩=false∧Fp w0 (w4.setCell ⟨wb,5,none⟩ (.slice (some ⟨g,0,none⟩) (m+1) cap)) gS gA gT wb ib inl at_ (went++[x]) stops (.slice (some ⟨g,0,none⟩) (m+1) cap) sv:=by
 subst hm;have hM:=h.more h2;obtain⟨n1,n2,n3⟩:=hM.ne;have hf4:Bn (fun k=>wv.ownBlock=some k) w2 w4:=(Bn.refl _ w2).grown hg (fun k hk _=>hk);have hs4:=hf4.heap hM.hs (fun e=>(n2 _ e).1 rfl);have hi4:=hf4.heap hM.hi (fun e=>(n2 _ e).2 rfl);have rs4:=Al hM.rs hf4 (fun q hq e=>hM.off q e hq);have b4:Below w0.heap.size w0 w4:=hM.below.trans (hf4.below (fun k hk=>(hM.rw.lt k hk).1) hM.below.size);have hgw:g≠wb:=by
  rcases hor with e | e
  ·exact(n2 g e).1
  ·have:=(BO.1 hM.hs).1;omega
 have hgs:sv.ownBlock≠some g:=by
  rcases hor with e | e
  ·exact hM.off g e
  ·intro e2;have:=(hM.rs.lt g e2).2;omega
 have hf:Bn (fun q=>q=wb) w4 (w4.setCell ⟨wb,5,none⟩ (.slice (some ⟨g,0,none⟩) (went.length+1) cap)):=(Bn.refl (fun q=>q=wb) w4).setCell (p:=⟨wb,5,none⟩) (fun _=>rfl) _;refine⟨Ab hs4 5 _ rfl,Ag hs4 5,b4.setCell (p:=⟨wb,5,none⟩) h.d.1 _,?_,hf.heap hi4 (Ne.symm n1),?_,Al rs4 hf (fun q hq=>(n3 q hq).1),?_,h.d⟩
 ·rw[Ac hs4];rfl
 ·have:=Al hown hf (fun k hk e=>by simp[Value.ownBlock]at hk;omega);rw[Ec,Bs];exact this
 ·intro q hq;obtain rfl:g=q:=by simpa[Value.ownBlock]using hq
  exact hgs
theorem Fp.pushStops (h:Fp w0 wr gS gA gT wb ib inl at_ went stops wv sv) (x:Int) (m:Nat) (hm:stops.length=m) {w2 w4:World} {g cap:Nat} (h2:Below wr.heap.size wr w2)
  (hg:w2.grownBy w4 sv.ownBlock) (hor:sv.ownBlock=some g∨g=w2.heap.size) (hown:w4.ownsRow w0.heap.size 3 1 (.slice (some ⟨g,0,none⟩) (m+1) cap) (m+1) (stops.map (Value.int .i64)++[.int .i64 x])):
  w4.cell? ⟨wb,6,none⟩=some sv∧w4.frozen? ⟨wb,6,none⟩=false∧Fp w0 (w4.setCell ⟨wb,6,none⟩ (.slice (some ⟨g,0,none⟩) (m+1) cap)) gS gA gT wb ib inl at_ went (stops++[x]) wv (.slice (some ⟨g,0,none⟩) (m+1) cap):=by
 subst hm;have hM:=h.more h2;obtain⟨n1,n2,n3⟩:=hM.ne;have hf4:Bn (fun k=>sv.ownBlock=some k) w2 w4:=(Bn.refl _ w2).grown hg (fun k hk _=>hk);have hs4:=hf4.heap hM.hs (fun e=>(n3 _ e).1 rfl);have hi4:=hf4.heap hM.hi (fun e=>(n3 _ e).2 rfl);have rw4:=Al hM.rw hf4 (fun q hq e=>hM.off q hq e);have b4:Below w0.heap.size w0 w4:=hM.below.trans (hf4.below (fun k hk=>(hM.rs.lt k hk).1) hM.below.size);have hgw:g≠wb:=by
  rcases hor with e | e
  ·exact(n3 g e).1
  ·have:=(BO.1 hM.hs).1;omega
 have hgs:wv.ownBlock≠some g:=by
  rcases hor with e | e
  ·exact fun e2=>hM.off g e2 e
  ·intro e2;have:=(hM.rw.lt g e2).2;omega
 have hf:Bn (fun q=>q=wb) w4 (w4.setCell ⟨wb,6,none⟩ (.slice (some ⟨g,0,none⟩) (stops.length+1) cap)):=(Bn.refl (fun q=>q=wb) w4).setCell (p:=⟨wb,6,none⟩) (fun _=>rfl) _;refine⟨Ab hs4 6 _ rfl,Ag hs4 6,b4.setCell (p:=⟨wb,6,none⟩) h.d.1 _,?_,hf.heap hi4 (Ne.symm n1),Al rw4 hf (fun q hq=>(n2 q hq).1),?_,?_,h.d⟩
 ·rw[Ac hs4];rfl
 ·have:=Al hown hf (fun k hk e=>by simp[Value.ownBlock]at hk;omega);rw[Ec,Bs];exact this
 ·intro q hq e;obtain rfl:g=q:=by simpa[Value.ownBlock]using e
  exact hgs hq
end
structure KQ(wb:Nat)(wv sv:Value)(w:World)(wv' sv':Value)(w':World):Prop where
 frm:Bn (fun q=>q=wb∨wv.ownBlock=some q∨sv.ownBlock=some q) w w'
 wn:∀q,wv'.ownBlock=some q→wv.ownBlock=some q∨w.heap.size≤q
 sn:∀q,sv'.ownBlock=some q→sv.ownBlock=some q∨w.heap.size≤q
theorem KQ.of_below{wb:Nat}{wv sv:Value}{w w':World}(h:Below w.heap.size w w'):KQ wb wv sv w wv sv w':=⟨Df h _,fun _ h=>.inl h,fun _ h=>.inl h⟩
theorem KQ.trans{wb:Nat}{wv sv wv1 sv1 wv2 sv2:Value}{w w1 w2:World}(h:KQ wb wv sv w wv1 sv1 w1)(k:KQ wb wv1 sv1 w1 wv2 sv2 w2):KQ wb wv sv w wv2 sv2 w2:=by
 refine⟨h.frm.trans' k.frm (fun i hi hG=>?_),fun q hq=>?_,fun q hq=>?_⟩
 ·rcases hG with e | e | e
  ·exact .inl e
  ·rcases h.wn i e with e | e
   ·exact .inr (.inl e)
   ·omega
  ·rcases h.sn i e with e | e
   ·exact .inr (.inr e)
   ·omega
 ·rcases k.wn q hq with e | e
  ·exact h.wn q e
  ·exact .inr (CP h.frm.size e)
 ·rcases k.sn q hq with e | e
  ·exact h.sn q e
  ·exact .inr (CP h.frm.size e)
theorem KQ.set{wb:Nat}{wv sv:Value}(w:World)(i:Nat)(v:Value):KQ wb wv sv w wv sv (w.setCell ⟨wb,i,none⟩ v):=
 ⟨(Bn.refl _ w).setCell (p:=⟨wb,i,none⟩) (fun _=>.inl rfl) _,fun _ h=>.inl h,fun _ h=>.inl h⟩
theorem KQ.push1{wb:Nat}{wv sv:Value}{w w2 w4:World}{g n cap i:Nat}{v:Value}(h2:Below w.heap.size w w2)(hg:w2.grownBy w4 wv.ownBlock)(hor:wv.ownBlock=some g∨g=w2.heap.size):KQ wb wv sv w (.slice (some ⟨g,0,none⟩) n cap) sv (w4.setCell ⟨wb,i,none⟩ v):=by
 refine⟨((Df h2 _).grown hg (fun k hk _=>.inr (.inl hk))).setCell (p:=⟨wb,i,none⟩) (fun _=>.inl rfl) _,fun q hq=>?_,fun _ h=>.inl h⟩;obtain rfl:g=q:=by simpa[Value.ownBlock]using hq
 rcases hor with e | e
 ·exact .inl e
 ·have:=h2.size;exact .inr (by omega)
theorem KQ.push2{wb:Nat}{wv sv:Value}{w w2 w4:World}{g n cap i:Nat}{v:Value}(h2:Below w.heap.size w w2)(hg:w2.grownBy w4 sv.ownBlock)(hor:sv.ownBlock=some g∨g=w2.heap.size):KQ wb wv sv w wv (.slice (some ⟨g,0,none⟩) n cap) (w4.setCell ⟨wb,i,none⟩ v):=by
 refine⟨((Df h2 _).grown hg (fun k hk _=>.inr (.inr hk))).setCell (p:=⟨wb,i,none⟩) (fun _=>.inl rfl) _,fun _ h=>.inl h,fun q hq=>?_⟩;obtain rfl:g=q:=by simpa[Value.ownBlock]using hq
 rcases hor with e | e
 ·exact .inl e
 ·have:=h2.size;exact .inr (by omega)
def UU(v wv sv:Value):Prop:=∀q,v.ownBlock=some q→wv.ownBlock≠some q∧sv.ownBlock≠some q
theorem KQ.row{wb:Nat}{wv sv wv' sv' v:Value}{w w' w0:World}{B n:Nat}{xs:List Value}{gS gA gT:Value}{ib:Nat}{inl:List Bool}{at_:Int}{went stops:List Int}(h:KQ wb wv sv w wv' sv' w')(hM:Fp w0 w gS gA gT wb ib inl at_ went stops wv sv)(ho:w.ownsRow B 3 1 v n xs)(ha:UU v wv sv):w'.ownsRow B 3 1 v n xs∧UU v wv' sv':=by
 refine⟨Al ho h.frm (fun q hq hF=>?_),fun q hq=>⟨fun e=>?_,fun e=>?_⟩⟩
 ·rcases hF with e | e | e
  ·obtain⟨c,e2⟩:=Ca ho hq;rw[e,hM.hs]at e2;simp at e2
  ·exact(ha q hq).1 e
  ·exact(ha q hq).2 e
 ·rcases h.wn q e with e | e
  ·exact(ha q hq).1 e
  ·have:=(ho.lt q hq).2;omega
 ·rcases h.sn q e with e | e
  ·exact(ha q hq).2 e
  ·have:=(ho.lt q hq).2;omega
theorem Zm{w0 wr:World}{g:Gr}{gS gA gT:Value}{wb ib:Nat}{inl:List Bool}{at_:Int}{went stops:List Int}{wv sv:Value}(h:Fp w0 wr gS gA gT wb ib inl at_ went stops wv sv)(hG:Ao w0 (.agg #[gS,gA,gT]) g)(a:Int)(hwl:went.length≤1000000000)(hsl:stops.length≤1000000000):
  Calls Tryz.prog 57 #[.pointer (some ⟨wb,0,none⟩),.int .i64 a] wr fun e w'=>e=.returned (.tuple #[])∧∃wv' sv',Fp w0 w' gS gA gT wb ib inl (Gl g at_ [a]) (went++[a]) (stops++[Gl g at_ [a]]) wv' sv'∧KQ wb wv sv wr wv' sv' w':=by
 obtain⟨i0,hi0,hz0,hz1,hz2⟩:=CE Tryz.info3;obtain⟨wa,wc,rfl⟩:=CQ h.rw;obtain⟨sa,sc,rfl⟩:=CQ h.rs;obtain⟨n,hn⟩:∃n,went.length=n:=⟨_,rfl⟩;have HN:=Aa hn;obtain⟨m,hm⟩:∃m,stops.length=m:=⟨_,rfl⟩;have HM:=Aa hm;rw[hn]at h hwl ⊢;rw[hm]at h hsl ⊢;clear hn hm;have H0:=Aa h;have HF:=Aa (fun(w':World) (hb:Below wr.heap.size wr w') (pv:Value) (hp:Am w' pv [a])=>eL _ pv g at_ [a] w' (hG.below (h.below.trans (hb.mono h.below.size))) hp (by simp));have c0:=h.cell 0 _ rfl;have c1:=h.cell 1 _ rfl;have c2:=h.cell 2 _ rfl;have c4:=h.cell 4 _ rfl;clear h hG;generalize Gl g at_ [a]=NA at*;go_enter Tryz.func57,Tryz.ntmps57;go_wp2_with fail
 refine BH 12 (fun _=>undef)
  (fun f=>{tmps:=#[.pointer (some ⟨wb,0,none⟩),.int .i64 a,undef,undef,f 4,f 5,f 6,f 7,f 8,f 9,f 10,f 11,f 12,f 13,f 14,f 15,undef,undef,undef,undef,undef,undef,undef,undef,undef,undef,undef,undef,undef,undef,undef,undef,undef,undef,undef,undef,undef,undef,undef,undef,undef],defers:=[]}) (fun j=>j+4)
  (Tx [.of (.eq (.pointer (some ⟨wb,0,none⟩))),.of (.eq (.pointer (some ⟨wb,0,none⟩))),.of (.eq (.pointer (some ⟨wb,0,none⟩))),.of (.eq (.pointer (some ⟨wb,0,none⟩))),.of (.eq (.agg #[gS,gA,gT])),.of (.eq (.pointer (some ⟨wb,0,none⟩))),.of (.eq (.pointer (some ⟨wb,0,none⟩))),.of (.eq (.pointer (some ⟨wb,4,none⟩))),.of (.eq (.int .i64 at_)),.of (.eq (.int .i64 a)),.one (.int .i64 a) 3,.of (.eq (.int .i64 NA))])
  rfl (by kernel_rfl) (by kernel_rfl) (by kernel_rfl) (by decide) (by kernel_rfl) (fun i u w w' hb h=>GU hb h) (by kernel_rfl) (by kernel_rfl) ?_ ?_ ?_
 ·intro j hj f v;rcases j with _ | _ | _ | _ | _ | _ | _ | _ | _ | _ | _ | _ | j
  all_goals first | rfl | omega | (simp at hj;omega)
 ·refine⟨?_,?_,?_,?_,?_,?_,?_,?_,?_,?_,?_,?_,trivial⟩
  ·intro f w' hb hd K hK;dsimp only;go_simp;exact hK (.pointer (some ⟨wb,0,none⟩)) w' (Ak _ _) rfl
  ·intro f w' hb hd K hK;dsimp only;go_simp;exact hK (.pointer (some ⟨wb,0,none⟩)) w' (Ak _ _) rfl
  ·intro f w' hb hd K hK;have h0:f 5=(.pointer (some ⟨wb,0,none⟩)):=hd 1 (by kernel_rfl);dsimp only;go_simp;have q:=hK (.pointer (some ⟨wb,0,none⟩)) w' (Ak _ _) rfl;simp only[h0]at q;exact q
  ·intro f w' hb hd K hK;have h0:f 6=(.pointer (some ⟨wb,0,none⟩)):=hd 2 (by kernel_rfl);dsimp only;go_simp;have q:=hK (.pointer (some ⟨wb,0,none⟩)) w' (Ak _ _) rfl;simp only[h0]at q;exact q
  ·intro f w' hb hd K hK;have h0:f 7=(.pointer (some ⟨wb,0,none⟩)):=hd 3 (by kernel_rfl);obtain⟨e0,e1,e2⟩:=JN hb c0 c1 c2;dsimp only;go_simp;have q:=hK (.agg #[gS,gA,gT]) w' (Ak _ _) rfl;simp only[h0]at q;exact q
  ·intro f w' hb hd K hK;dsimp only;go_simp;exact hK (.pointer (some ⟨wb,0,none⟩)) w' (Ak _ _) rfl
  ·intro f w' hb hd K hK;have h0:f 9=(.pointer (some ⟨wb,0,none⟩)):=hd 5 (by kernel_rfl);dsimp only;go_simp;have q:=hK (.pointer (some ⟨wb,0,none⟩)) w' (Ak _ _) rfl;simp only[h0]at q;exact q
  ·intro f w' hb hd K hK;have h0:f 10=(.pointer (some ⟨wb,0,none⟩)):=hd 6 (by kernel_rfl);dsimp only;go_simp;have q:=hK (.pointer (some ⟨wb,4,none⟩)) w' (Ak _ _) rfl;simp only[h0]at q;exact q
  ·intro f w' hb hd K hK;have h0:f 11=(.pointer (some ⟨wb,4,none⟩)):=hd 7 (by kernel_rfl);have e0:=Af hb c4;dsimp only;go_simp;have q:=hK (.int .i64 at_) w' (Ak _ _) rfl;simp only[h0]at q;exact q
  ·intro f w' hb hd K hK;dsimp only;go_simp;exact hK (.int .i64 a) w' (Ak _ _) rfl
  ·intro f w' hb hd K hK;have h0:f 13=(.int .i64 a):=hd 9 (by kernel_rfl);dsimp only;go_simp;have q:=hK _ _ (Ae w' (.cells #[(.int .i64 a)] 3)) ⟨w'.heap.size,rfl,Ar w' _⟩;simp only[h0]at q;exact q
  ·intro f w' hb hd K hK;have h0:f 8=(.agg #[gS,gA,gT]):=hd 4 (by kernel_rfl);have h1:f 12=(.int .i64 at_):=hd 8 (by kernel_rfl);obtain⟨b,h2,hbk⟩:∃b,f 14=.slice (some ⟨b,0,none⟩) 1 1∧w'.heap[b]?=some (.cells #[(.int .i64 a)] 3 (0,0)):=hd 10 (by kernel_rfl);have HI:Hid (Am w' (.slice (some ⟨b,0,none⟩) 1 1) [a]):=Aa ⟨some ⟨b,0,none⟩,1,rfl,fun j hj=>⟨b,0,rfl,by obtain rfl:j=0:=(by simpa using hj);exact Ab hbk 0 _ rfl⟩⟩;have HO:=Aa (HF.out w' ((Ak _ wr).drew.trans hb) _ HI.out);clear hbk;dsimp only;go_simp;go_wp2_with (go_at_call 85;refine HO.out.mono ?_;rintro e w2 ⟨rfl,hb2⟩)
   have q:=hK (.int .i64 NA) w2 hb2 rfl;simp only[h0,h1,h2]at q;exact q
 intro f w6 hb6 hr6;have h0:f 4=(.pointer (some ⟨wb,0,none⟩)):=hr6 0 (by decide);have h1:f 5=(.pointer (some ⟨wb,0,none⟩)):=hr6 1 (by decide);have h2:f 6=(.pointer (some ⟨wb,0,none⟩)):=hr6 2 (by decide);have h3:f 7=(.pointer (some ⟨wb,0,none⟩)):=hr6 3 (by decide);have h4:f 8=(.agg #[gS,gA,gT]):=hr6 4 (by decide);have h5:f 9=(.pointer (some ⟨wb,0,none⟩)):=hr6 5 (by decide);have h6:f 10=(.pointer (some ⟨wb,0,none⟩)):=hr6 6 (by decide);have h7:f 11=(.pointer (some ⟨wb,4,none⟩)):=hr6 7 (by decide);have h8:f 12=(.int .i64 at_):=hr6 8 (by decide);have h9:f 13=(.int .i64 a):=hr6 9 (by decide);obtain⟨b6,h10,-⟩:∃b,f 14=.slice (some ⟨b,0,none⟩) 1 1∧w6.heap[b]?=some (.cells #[(.int .i64 a)] 3 (0,0)):=hr6 10 (by decide);have h11:f 15=(.int .i64 NA):=hr6 11 (by decide);simp only[h0,h1,h2,h3,h4,h5,h6,h7,h8,h9,h10,h11,List.drop_succ_cons,List.drop_zero];have H6:=Aa (H0.out.more hb6);have F6:=Aa (KQ.of_below (wb:=wb) (wv:=.slice wa n wc) (sv:=.slice sa m sc) hb6);clear hb6 hr6 c0 c1 c2 c4 h0 h1 h2 h3 h4 h5 h6 h7 h8 h9 h10 h11;have c4:w6.cell? ⟨wb,4,none⟩=some (.int .i64 at_):=H6.out.cell 4 _ rfl;have r4:=H6.out.free 4;have H7:=Aa (H6.out.setAt NA);have F7:=Aa (F6.out.trans (KQ.set w6 4 (.int .i64 NA)));have OW:=Aa H7.out.rw;rw[HN.out]at OW;have c5:(w6.setCell ⟨wb,4,none⟩ (.int .i64 NA)).cell? ⟨wb,5,none⟩=some (.slice wa n wc):=H7.out.cell 5 _ rfl;have hsz:w0.heap.size≤(w6.setCell ⟨wb,4,none⟩ (.int .i64 NA)).heap.size:=H7.out.below.size;have HSZ:=Aa hsz;have H7L:Hid (went.length=n):=HN;have e7:(w6.setCell ⟨wb,4,none⟩ (.int .i64 NA)).heap.size=w6.heap.size:=by simp
 have NW:Hid (((w6.setCell ⟨wb,4,none⟩ (.int .i64 NA)).alloc (.cells #[.int .i64 a] 3)).heap[w6.heap.size]?=some (.cells #[.int .i64 a] 3)):=Aa (by have:=Ar (w6.setCell ⟨wb,4,none⟩ (.int .i64 NA)) (.cells #[.int .i64 a] 3);rwa [e7]at this);clear hsz H6 H0 HF e7 F6;go_wp2_with (at_builtin;refine wpList_append_lies ((w6.setCell ⟨wb,4,none⟩ (.int .i64 NA)).alloc (.cells #[.int .i64 a] 3)) rfl (.tmp 22) (.tmp 24) 22 rfl w0.heap.size 3 i0 (.int .i64 0) 1 8 Tryz.underlying22 hi0 hz0 hz1 hz2 rfl (by decide) (.slice wa n wc) n _ rfl (OW.out.alloc _) ⟨w6.heap.size,0,none⟩ 1 1 [.int .i64 a] rfl rfl (World.news_of_block NW.out) (by simp[Value.oneCell']) (by omega) (by unfold maxLen;omega) (by omega) (by have:=HSZ.out;simp at this ⊢;omega) (w6.heap.size+1) (by simp) ?_;intro g3 cap3 w8 hown3 hgr3 hor3 hlt3;obtain⟨q0,q1,q2⟩:=H7.out.pushWent a n H7L.out (Ae _ _) hgr3 (by simpa using hor3) hown3;have H9:=Aa q2;have F9:Hid (KQ wb (.slice wa n wc) (.slice sa m sc) wr (.slice (some ⟨g3,0,none⟩) (n+1) cap3) (.slice sa m sc) (w8.setCell ⟨wb,5,none⟩ (.slice (some ⟨g3,0,none⟩) (n+1) cap3))):=Aa (F7.out.trans (KQ.push1 (Ae _ _) hgr3 (by simpa using hor3)));clear hown3 hgr3 hor3 hlt3 q2)
 generalize World.setCell w8 _ _=w9 at*;have HSV:=Aa H9.out.rs;rw[HM.out]at HSV;have c6:w9.cell? ⟨wb,6,none⟩=some (.slice sa m sc):=H9.out.cell 6 _ rfl;have c4':w9.cell? ⟨wb,4,none⟩=some (.int .i64 NA):=H9.out.cell 4 _ rfl;have hb9:w0.heap.size≤w9.heap.size:=H9.out.below.size;have HB9:=Aa hb9;have e6:=Af (Ae w9 (.cells #[.int .i64 NA] 3)) c6;have e4:=Af (Ae w9 (.cells #[.int .i64 NA] 3)) c4';have M1:Hid (m+1≤maxLen):=Aa (by unfold maxLen;omega);have M2:Hid ((m+1)*8≤140737488355328):=Aa (by omega);have M3:Hid (w0.heap.size≤w9.heap.size+1):=Aa (by omega);clear q0 q1 hb9 c4 r4 c5 H7 OW HSZ NW
 go_region_law (refine step_append_lies ((w9.alloc (.cells #[.int .i64 NA] 3)).drew) rfl (.tmp 32) (.tmp 37) 22 rfl w0.heap.size 3 i0 (.int .i64 0) 1 8 Tryz.underlying22 hi0 hz0 hz1 hz2 rfl (by decide) (.slice sa m sc) m (stops.map (Value.int .i64)) (by simp[Act.eval]) (HSV.out.alloc _) ⟨w9.heap.size,0,none⟩ 1 1 [.int .i64 NA] (by simp[Act.eval]) rfl (World.news_of_block (Ar w9 _)) (by simp[Value.oneCell']) Nat.one_pos M1.out M2.out (by simpa using M3.out) (w9.heap.size+1) (by simp) ?_;intro g4 cap4 w10 hown4 hgr4 hor4 hlt4;obtain⟨q0,q1,q2⟩:=H9.out.pushStops NA m HM.out (Ae w9 (.cells #[.int .i64 NA] 3)).drew hgr4 (by simpa using hor4) hown4;have Q6:=Aa q2;have F10:Hid (KQ wb (.slice wa n wc) (.slice sa m sc) wr _ _ (w10.setCell ⟨wb,6,none⟩ (.slice (some ⟨g4,0,none⟩) (m+1) cap4))):=Aa (F9.out.trans (KQ.push2 (cap:=cap4) (n:=m+1) (g:=g4) (Ae w9 (.cells #[.int .i64 NA] 3)).drew hgr4 (by simpa using hor4)));clear q2 hgr4 hown4 hor4)
 all_goals go_wp2_with fail
 all_goals go_end0
 all_goals exact⟨rfl,_,_,Q6.out,F10.out⟩
def cU(inl:List Bool)(a:Int)(e:Ed):Bool:=decide (e.2.1=a)&&inl.getD e.2.2.toNat false
def Mi(g:Gr)(inl:List Bool)(a:Int)(i:Nat):Bool:=(AR g (i:Int)).any (cU inl a)
theorem bU{p:Ed→Bool}{l:List Ed}{k:Nat}(hk:k<l.length)(hp:p (l.getD k (0,0,0))=true):l.any p=true:=List.any_eq_true.2 ⟨_,Qy hk,hp⟩
theorem eB{p:Ed→Bool}{l:List Ed}(h:∀j,j<l.length→p (l.getD j (0,0,0))=false):l.any p=false:=by
 rw[List.any_eq_false];intro x hx;obtain⟨j,hj,rfl⟩:=Ey hx;have:=h j hj;rw[AM,Bf hj]at this;simpa using this
theorem Zk {w0 wr:World} {g:Gr} {gS gA gT:Value} {wb ib:Nat} {inl:List Bool} {at_:Int} {went stops:List Int} {wv sv:Value} (h:Fp w0 wr gS gA gT wb ib inl at_ went stops wv sv) (hG:Ao w0 (.agg #[gS,gA,gT]) g) (i:Nat) (a:Int)
  (hE:∀e∈AR g (i:Int),0≤e.2.2∧e.2.2<(inl.length:Int)):
  Calls Tryz.prog 55 #[.pointer (some ⟨wb,0,none⟩),.int .i64 (i:Nat),.int .i64 a] wr fun e w'=>e=.returned (.bool (Mi g inl a i))∧Below wr.heap.size wr w':=by
 have c0:=h.cell 0 _ rfl;have c1:=h.cell 1 _ rfl;have c2:=h.cell 2 _ rfl;have c3:wr.cell? ⟨wb,3,none⟩=some (.slice (some ⟨ib,0,none⟩) inl.length inl.length):=h.cell 3 _ rfl;have HO:=Aa (NT _ g i wr (hG.below h.below));have hol:(AR g (i:Int)).length≤1000000:=CP (Fk g _) hG.sT;have HMC:=Aa (fun j (hj:j<inl.length)=>Ab h.hi j _ (Co _ j hj));have AH:=Aa (fun k hk hp=>bU (p:=cU inl a) (l:=AR g (i:Int)) (k:=k) hk hp);have AN:=Aa (fun hh=>eB (p:=cU inl a) (l:=AR g (i:Int)) hh);have EI:=Aa (fun k (hk:k<(AR g (i:Int)).length)=>hE _ (Qy hk));have HIT:Hid (∀e:Ed,cU inl a e=(decide (e.2.1=a)&&inl.getD e.2.2.toNat false)):=Aa (fun e=>rfl);clear h hG hE;unfold Mi;generalize List.any (AR g (i:Int)) (cU inl a)=RES at*;generalize cU inl a=HI at*;generalize AR g (i:Int)=el at*;go_enter Tryz.func55,Tryz.ntmps55;go_wp2_with (go_at_call 83;refine HO.out.mono ?_;rintro e w1 ⟨rv,rfl,hE,hb1⟩;obtain⟨ea,ec,rfl,hE⟩:=hE;have HED:=Aa hE;have HB1:=Aa hb1;have c4:=Af hb1 c3;clear hE hb1)
 clear c0 c1 c2 c3;have C4:=Aa c4;clear c4;go_loopg [16] el.length (fun fu c wr=>∃k:Nat,k+fu=el.length∧c=.int .i64 k∧Hid (∀j,j<k→HI (el.getD j (0,0,0))=false)∧Hid (Below w1.heap.size w1 wr))
 case atStart=>exact⟨0,by omega,rfl,Aa (fun j hj=>by omega),Aa (Ak _ _)⟩
 case round=>
  obtain⟨k,hk,rfl,HK,HBR⟩:=hrel;by_cases hlt:k<el.length
  ·obtain⟨b1,o1,rfl,d1,d2,d3⟩:=HED.out k hlt;obtain⟨y1,y2,y3⟩:=JN HBR.out d1 d2 d3;have z1:(k:Int)<(el.length:Int):=by omega
   have hin:=EI.out k hlt;have HH:=Aa (fun hp=>AH.out k hlt hp);have HN2:Hid (HI (el.getD k (0,0,0))=false→∀j,j<k+1→HI (el.getD j (0,0,0))=false):=Aa (fun hne j hj=>by
    by_cases e:j=k
    ·rw[e];exact hne
    ·exact HK.out j (by omega))
   have HT:=Aa (HIT.out (el.getD k (0,0,0)));clear d1 d2 d3;generalize el.getD k (0,0,0)=ed at*;obtain⟨ex,ey,ez⟩:=ed;simp only at hin y1 y2 y3 HH HT;obtain⟨r,rfl⟩:∃q:Nat,ez=(q:Int):=⟨ez.toNat,by omega⟩;simp only[BT]at HT;have z3:(r:Int)<(inl.length:Int):=by omega
   have HB4:=Aa (HBR.out.trans ((Ae _ (.cells #[.int .i64 ex,.int .i64 ey,.int .i64 (r:Nat)] 54)).mono HBR.out.size));have q1:=Af HB4.out C4.out;have q2:=Af HB4.out (Af HB1.out (HMC.out r (by omega)));clear hin;by_cases hy:ey=a
   ·subst hy;have hyy:(ey==ey)=true:=by simp
    rw[Ck rfl,Bool.true_and]at HT;cases h2:inl.getD r false
    ·rw[h2]at HT q2;have E:=Aa (HN2.out HT.out);clear h2;go_wp2_with fail
     go_quiet (fail)
     go_wp2_with fail
     go_roundg (el.length - (k+1))
     case measure=>omega
     case rel=>exact⟨k+1,by omega,by simp,E,Aa (by first | exact HB4.out.drew | exact BD HB4.out _)⟩
    ·rw[h2]at HT q2;have E:=Aa (HH.out HT.out);clear h2;go_wp2_with fail
     go_quiet (fail)
     go_wp2_with fail
     go_ret;exact⟨by rw[E.out];rfl,HB1.out.trans (Below.mono (by first | exact HB4.out.drew | exact BD HB4.out _) HB1.out.size)⟩
   ·have hyy:(ey==a)=false:=Bh hy;rw[Cj hy,Bool.false_and]at HT;have E:=Aa (HN2.out HT.out);clear q1 q2;go_wp2_with fail
    go_quiet (fail)
    go_wp2_with fail
    go_roundg (el.length - (k+1))
    case measure=>omega
    case rel=>exact⟨k+1,by omega,by simp,E,Aa (by first | exact HB4.out.drew | exact BD HB4.out _)⟩
  ·obtain rfl:k=el.length:=by omega
   have E:=Aa (AN.out HK.out);go_wp2_with fail
   go_ret;exact⟨by rw[E.out];rfl,HB1.out.trans (HBR.out.mono HB1.out.size)⟩
theorem Rg{M:Nat}{caps:Array Value}{p:Nat→Bool}{w0 wr:World}{gS gA gT:Value}{wb ib:Nat}{inl:List Bool}{at_:Int}{went stops:List Int}{wv sv:Value}(h:Fp w0 wr gS gA gT wb ib inl at_ went stops wv sv)(T:Yp M caps wr inl.length p)(hl:inl.length≤100000):
  Calls Tryz.prog 53 #[.pointer (some ⟨wb,0,none⟩),.func (.func M) #[] caps] wr fun e w'=>e=.returned (.int .i64 (Fq (fun i=>inl.getD i false&&p i) inl.length))∧Below wr.heap.size wr w':=by
 have hE':∀(args:Array Value) (w:World),(callFunc M args).run Tryz.prog w=.ok (.enter M args) w:=T.enters;have HT:=Aa T.ok;have c3:wr.cell? ⟨wb,3,none⟩=some (.slice (some ⟨ib,0,none⟩) inl.length inl.length):=h.cell 3 _ rfl;have HMC:=Aa (fun j (hj:j<inl.length)=>Ab h.hi j _ (Co _ j hj));obtain⟨n,hn⟩:∃n,inl.length=n:=⟨_,rfl⟩;have FH:=Aa (fun k (hk:k<n) hj hp=>Nq (p:=fun i=>inl.getD i false&&p i) (n:=n) hk hj hp);have FN:=Aa (fun hj=>Mb (p:=fun i=>inl.getD i false&&p i) (n:=n) hj);rw[hn]at c3 HMC HT hl ⊢;clear T h hn;generalize Fq (fun i=>inl.getD i false&&p i) n=RES at*;have W0:=Aa (Ak wr.heap.size wr);obtain⟨WO,hWO⟩:∃z:World,z=wr:=⟨_,rfl⟩;rw[← hWO]at HT HMC W0 c3 ⊢;clear hWO;go_enter Tryz.func53,Tryz.ntmps53;go_wp2_with fail
 go_loopg [12] n (fun fu c wr=>∃k:Nat,k+fu=n∧c=.int .i64 k∧Hid (∀j,j<k→(inl.getD j false&&p j)=false)∧Hid (Below WO.heap.size WO wr))
 case atStart=>exact⟨0,by omega,rfl,Aa (fun j hj=>by omega),W0⟩
 case round=>
  obtain⟨k,hk,rfl,HK,HBR⟩:=hrel;by_cases hlt:k<n
  ·have y1:=Af HBR.out (HMC.out k hlt);have z1:(k:Int)<(n:Int):=by omega
   have HH:=Aa (fun hp=>FH.out k hlt HK.out hp);have HN2:Hid ((inl.getD k false&&p k)=false→∀j,j<k+1→(inl.getD j false&&p j)=false):=Aa (fun hne j hj=>by
    by_cases e:j=k
    ·rw[e];exact hne
    ·exact HK.out j (by omega))
   have HC:=Aa (HT.out k _ hlt HBR.out);cases h1:inl.getD k false
   ·rw[h1]at HN2 y1;have E:=Aa (HN2.out rfl);clear h1;go_wp2_with fail
    go_roundg (n - (k+1))
    case measure=>omega
    case rel=>exact⟨k+1,by omega,by simp,E,HBR⟩
   ·rw[h1,Bool.true_and]at HN2 HH;rw[h1]at y1;cases h2:p k
    ·rw[h2]at HC HN2;have E:=Aa (HN2.out rfl);clear h1 h2;go_wp2_with (go_at_fn M;refine HC.out.mono ?_;rintro en w1 ⟨rfl,hb1⟩;have HB1:=Aa (HBR.out.trans (hb1.mono HBR.out.size));clear hb1)
     go_roundg (n - (k+1))
     case measure=>omega
     case rel=>exact⟨k+1,by omega,by simp,E,HB1⟩
    ·rw[h2]at HC HH;have E:=Aa (HH.out rfl);clear h1 h2;go_wp2_with (go_at_fn M;refine HC.out.mono ?_;rintro en w1 ⟨rfl,hb1⟩;have HB1:=Aa (HBR.out.trans (hb1.mono HBR.out.size));clear hb1)
     go_ret;exact⟨by rw[E.out];rfl,HB1.out⟩
  ·obtain rfl:k=n:=by omega
   have E:=Aa (FN.out HK.out);go_wp2_with fail
   go_ret;exact⟨by rw[E.out];rfl,HBR.out⟩
theorem Zi {w0 wr:World} {g:Gr} {gS gA gT:Value} {wb ib vb ab:Nat} {inl:List Bool} {at_:Int} {went stops:List Int} {wv sv:Value} (h:Fp w0 wr gS gA gT wb ib inl at_ went stops wv sv) (hG:Ao w0 (.agg #[gS,gA,gT]) g) (a:Int)
  (hE:∀e∈Av g,0≤e.2.2∧e.2.2<(inl.length:Int)) (hv:wr.cell? ⟨vb,0,none⟩=some (.pointer (some ⟨wb,0,none⟩))) (ha:wr.cell? ⟨ab,0,none⟩=some (.int .i64 a)):
  Yp 54 #[.pointer (some ⟨vb,0,none⟩),.pointer (some ⟨ab,0,none⟩)] wr inl.length (Mi g inl a):=by
 refine⟨enters_of Tryz.func54 (by kernel_rfl) rfl,?_⟩;intro i w hi hw;show Calls Tryz.prog 54 #[.int .i64 (i:Nat),.pointer (some ⟨vb,0,none⟩),.pointer (some ⟨ab,0,none⟩)] w _;have HC:=Aa (Zk (h.more hw) hG i a (fun e he=>hE e (BZ.1 he).1));have d1:=Af hw hv;have d2:=Af hw ha;clear h hG hv ha hE hw;generalize Mi g inl a i=RES at*;go_enter Tryz.func54,Tryz.ntmps54;go_wp2_with (go_at_call 55;refine HC.out.mono ?_;rintro e w1 ⟨rfl,hb1⟩;have HB1:=Aa hb1;clear hb1)
 go_ret;exact⟨rfl,HB1.out⟩
theorem XI{wr:World}{eb ab:Nat}{u:Value}{en:List (List Bool)}{a A:Nat}(hu:AO wr u en)(hrows:∀i,i<en.length→(en.getD i []).length=A)(haA:a<A)(hv:wr.cell? ⟨eb,0,none⟩=some u)(ha:wr.cell? ⟨ab,0,none⟩=some (.int .i64 (a:Nat))):
  Yp 58 #[.pointer (some ⟨eb,0,none⟩),.pointer (some ⟨ab,0,none⟩)] wr en.length (fun i=>!(en.getD i []).getD a false):=by
 refine⟨enters_of Tryz.func58 (by kernel_rfl) rfl,?_⟩;intro i w hi hw;show Calls Tryz.prog 58 #[.int .i64 (i:Nat),.pointer (some ⟨eb,0,none⟩),.pointer (some ⟨ab,0,none⟩)] w _;obtain⟨ua,uc,rfl,hrow⟩:=hu;obtain⟨b4,o4,uu,rfl,c1,r1⟩:=hrow i hi;obtain⟨ra,rc,rfl,hrb⟩:=r1;have hrl:=hrows i hi;rw[hrl]at c1 hrb;obtain⟨b5,o5,rfl,m5⟩:=hrb a haA;obtain⟨d1,d2,q2,q3⟩:=Zf hw hv ha c1 m5;have z2:(a:Int)<(A:Int):=by omega
 have z1:(i:Int)<(en.length:Int):=by omega
 have HB:=Aa (Ak w.heap.size w);clear hv ha hrow hrows c1 hrb m5 hw hrl hi;generalize (en.getD i []).getD a false=b at*;generalize en.length=n at*;go_enter Tryz.func58,Tryz.ntmps58;go_wp2_with fail
 (refine AI (by kernel_rfl) (by kernel_rfl) ?_;(repeat still_step);refine wpStill_nil ?_)
 go_wp2_with fail
 go_ret;exact⟨rfl,by first | exact HB.out.drew | exact HB.out⟩
inductive cF (g:Gr) (inl:List Bool) (x:Int):List Int→Int→Prop
 | nil:cF g inl x [] x
 | snoc (p:List Int) (y a z:Int):cF g inl x p y→(y,a,z)∈Av g→Cz inl z=true→cF g inl x (p++[a]) z
theorem XV{F:FS}{j:Nat}(h:j<F.length):F.getD j (0,[])∈F:=by simp[AM,h]
theorem BI.way{g:Gr}{inl:List Bool}{src:Int}{F:FS}(h:BI g inl src F):∀n j,j≤n→j<F.length→cF g inl src (F.getD j (0,[])).2 (F.getD j (0,[])).1:=by
 intro n
 induction n with
 | zero=>
  intro j hj hl;obtain rfl:j=0:=by omega
  rw[h.hd];exact .nil
 | succ n ih=>
  intro j hj hl;by_cases e:j=0
  ·subst e;rw[h.hd];exact .nil
  ·obtain⟨i,a,q1,q2,q3⟩:=h.par j (by omega) hl;rw[q2];exact .snoc _ _ _ _ (ih i (by omega) (by omega)) q3 (h.inn _ (XV hl)).1
def eO(g:Gr)(inl:List Bool)(tgt:Int)(F:FS)(i:Nat):Prop:=∀j,j<i→(F.getD j (0,[])).1≠tgt∧∀e∈AR g (F.getD j (0,[])).1,Cz inl e.2.2=true→∃y∈F,y.1=e.2.2
theorem aA{inl:List Bool}{el:List Ed}{p:List Int}{F:FS}{y:Int×List Int}(h:y∈F):y∈EY inl el p F el.length:=by
 obtain⟨j,hj,rfl⟩:=Ey h;obtain⟨h1,h2⟩:=Gi (inl:=inl) (el:=el) (p:=p) (F:=F) el.length (AQ _);have:=h2 j hj;rw[show F[j]=F.getD j (0,[]) by rw[AM,Bf hj];rfl,← this];exact XV (Nat.lt_of_lt_of_le hj h1)
theorem eO.step{g:Gr}{inl:List Bool}{tgt:Int}{F:FS}{i:Nat}(h:eO g inl tgt F i)(hi:i<F.length)(hne:(F.getD i (0,[])).1≠tgt):eO g inl tgt (OZ g inl F i) (i+1):=by
 intro j hj;obtain⟨h1,h2⟩:=Gi (inl:=inl) (el:=AR g (F.getD i (0,[])).1) (p:=(F.getD i (0,[])).2) (F:=F) (AR g (F.getD i (0,[])).1).length (AQ _);have ej:(OZ g inl F i).getD j (0,[])=F.getD j (0,[]):=h2 j (by omega);rw[ej];by_cases e:j=i
 ·subst e;refine⟨hne,fun e he hin=>?_⟩;obtain⟨k,hk,rfl⟩:=Ey he;have:=UV (inl:=inl) (el:=AR g (F.getD j (0,[])).1) (p:=(F.getD j (0,[])).2) (F:=F) _ (AQ _) k hk;rw[AM,Bf hk]at this;exact this hin
 ·obtain⟨q1,q2⟩:=h j (by omega);refine⟨q1,fun e he hin=>?_⟩;obtain⟨y,hy,e1⟩:=q2 e he hin;exact⟨y,aA hy,e1⟩
theorem Ni{g:Gr}{inl:List Bool}{src tgt:Int}:∀(n:Nat) (F:FS) (i:Nat),BI g inl src F→eO g inl tgt F i→i≤F.length→inl.length+1≤i+n→
  match ZE g inl tgt n F i with
  | some p=>∃F' j,BI g inl src F'∧j<F'.length∧F'.getD j (0,[])=(tgt,p)
  | none=>∃F',BI g inl src F'∧eO g inl tgt F' F'.length
 | 0,F,i,hB,hC,hi,hf=>by have:=hB.len;omega
 | n+1,F,i,hB,hC,hi,hf=>by
  rw[ZE];by_cases hlt:i<F.length
  ·rw[if_pos hlt];by_cases ht:(F.getD i (0,[])).1=tgt
   ·rw[if_pos ht];exact⟨F,i,hB,hlt,by rw[← ht]⟩
   ·rw[if_neg ht];obtain⟨h1,-⟩:=Gi (inl:=inl) (el:=AR g (F.getD i (0,[])).1) (p:=(F.getD i (0,[])).2) (F:=F) (AR g (F.getD i (0,[])).1).length (AQ _);exact Ni n _ (i+1) (hB.vis hlt _ (AQ _)) (hC.step hlt ht) (Nat.lt_of_lt_of_le hlt h1) (by omega)
  ·rw[if_neg hlt];obtain rfl:i=F.length:=by omega
   exact⟨F,hB,hC⟩
theorem aD{g:Gr}{inl:List Bool}{src tgt:Int}{F:FS}(hB:BI g inl src F)(hC:eO g inl tgt F F.length){p:List Int}{y:Int}(h:cF g inl src p y):∃x∈F,x.1=y:=by
 induction h with
 | nil=>exact⟨_,XV hB.pos,by rw[hB.hd]⟩
 | snoc p y a z hw he hin ih=>
  obtain⟨x,hx,e⟩:=ih;obtain⟨j,hj,rfl⟩:=Ey hx;have:=(hC j hj).2 (y,a,z);rw[show F.getD j (0,[])=F[j] by rw[AM,Bf hj];rfl,e]at this;exact this (BZ.2 ⟨he,rfl⟩) hin
theorem VJ{g:Gr}{inl:List Bool}{src tgt:Int}{part:List Int}(hs:Cz inl src=true)(h0:0≤src)(hp:∀x,Cz inl x=true→0≤x→x∈part)(hw:∃p,cF g inl src p tgt):
  ∃p,EB g inl src tgt=some p∧cF g inl src p tgt∧p.length+1≤part.length:=by
 have h:=Ni (g:=g) (inl:=inl) (src:=src) (tgt:=tgt) (inl.length+1) [(src,[])] 0 (BI.start hs h0) (fun j hj=>by omega) (by simp) (by omega);unfold EB;cases hb:ZE g inl tgt (inl.length+1) [(src,[])] 0 with
 | some p=>
  rw[hb]at h;obtain⟨F',j,hB,hj,e⟩:=h;refine⟨p,rfl,?_,?_⟩
  ·have:=hB.way j j (AQ _) hj;rwa [e]at this
  ·have h1:=hB.short j j (AQ _) hj;rw[e]at h1;have h2:=FU (a:=F'.map (fun y=>y.1)) (b:=part) hB.nd (fun x hx=>by
    obtain⟨y,hy,rfl⟩:=DJ.1 hx;exact hp _ (hB.inn y hy).1 (hB.inn y hy).2)
   rw[Fi]at h2;simp only at h1;omega
 | none=>
  rw[hb]at h;obtain⟨F',hB,hC⟩:=h;obtain⟨p,hw⟩:=hw;obtain⟨x,hx,e⟩:=aD hB hC hw;obtain⟨j,hj,rfl⟩:=Ey hx;have:=(hC j hj).1;rw[show F'.getD j (0,[])=F'[j] by rw[AM,Bf hj];rfl]at this;exact absurd e this
theorem Ol(g:Gr)(inl:List Bool)(src tgt:Int)(hs:Cz inl src=true)(h0:0≤src):((EB g inl src tgt).getD []).length≤inl.length:=by
 have h:=Ni (g:=g) (inl:=inl) (src:=src) (tgt:=tgt) (inl.length+1) [(src,[])] 0 (BI.start hs h0) (fun j hj=>by omega) (by simp) (by omega);unfold EB;cases hb:ZE g inl tgt (inl.length+1) [(src,[])] 0 with
 | some p=>
  rw[hb]at h;obtain⟨F',j,hB,hj,e⟩:=h;have h1:=hB.short j j (AQ _) hj;rw[e]at h1;have:=hB.len;simp only[Option.getD_some]at h1 ⊢;omega
 | none=>simp
abbrev WS:Type:=Int×List Int×List Int
def Kb(g:Gr)(s:WS)(a:Int):WS:=(Gl g s.1 [a],s.2.1++[a],s.2.2++[Gl g s.1 [a]])
def Ip(g:Gr)(s:WS)(l:List Int):WS:=l.foldl (Kb g) s
def Da(g:Gr)(inl:List Bool)(s:WS)(t:Int):WS:=Ip g s ((EB g inl s.1 t).getD [])
theorem Wp{g:Gr}{s:WS}{l:List Int}{k:Nat}(h:k<l.length):Ip g s (l.take (k+1))=Kb g (Ip g s (l.take k)) (l.getD k 0):=by
 unfold Ip;rw[List.take_add_one,Bf h,List.foldl_append];simp[AM,h]
theorem Ot(g:Gr):∀(l:List Int) (s:WS),(Ip g s l).2.1.length=s.2.1.length+l.length∧(Ip g s l).2.2.length=s.2.2.length+l.length
 | [],s=>⟨rfl,rfl⟩
 | a::l,s=>by
  have:=Ot g l (Kb g s a);unfold Ip at this ⊢;rw[List.foldl_cons];simp only[Kb,Bs,List.length_cons,List.length_nil]at this ⊢;omega
end Go.Proofs.YtlhpjfnfemebdaaGreat
