/- edges.each: it hands on each edge to whatever closure. The -/
import Derived.Test.YtlhpjfnfemebdaaGreatJBase
import Derived.Shelf.Abstract
import Derived.Deep.AppendLies
set_option maxRecDepth 100000
set_option maxHeartbeats 64000000
namespace Go.Proofs.YtlhpjfnfemebdaaGreat
open Go.RowKit
theorem QD {g:Gr} {w:World} {sa aa ta:Option Addr} {sc ac tc:Nat} (hR:Rt g) (hS:g.S.length≤1000000) (hT:g.T.length≤1000000) (N:Nat) (hE:Enters Tryz.prog N) (caps:Array Value)
 (a m:Nat) (b:Int) (hb:b=(a:Int)+(m:Int)) (hab:a+m<g.S.length) (I:List Ed→World→Prop)
 (hv:∀pre w',I pre w'→WV w' w.heap.size sa aa ta sc ac tc g)
 (h0:I [] (w.alloc (.cells #[.slice sa g.S.length sc,.slice aa g.A.length ac,.slice ta g.T.length tc] 32)))
 (hd:∀pre w',I pre w'→I pre w'.drew)
 (hs:∀pre i k w',I pre w'→a≤i→i<a+m→st g i≤k→k<st g (i+1)→pre.length<g.T.length→
  Calls Tryz.prog N (#[.agg #[.int .i64 (i:Nat),.int .i64 (g.A.getD k 0),.int .i64 (g.T.getD k 0)]]++caps) w' fun e w''=>e=.returned (.tuple #[])∧I (pre++[edge g i k]) w''):
 Calls Tryz.prog 104 #[.agg #[.slice sa g.S.length sc,.slice aa g.A.length ac,.slice ta g.T.length tc],.int .i64 (a:Nat),.int .i64 b,.func (.func N) #[] caps] w
  fun e w'=>e=.returned (.tuple #[])∧I (Du g a m) w':=by
 have HR:=Aa hR;have HV:=Aa hv;have H0:=Aa h0;have HD:=Aa hd;have HS:=Aa hs;have hE':∀(args:Array Value) (w:World),(callFunc N args).run Tryz.prog w=.ok (.enter N args) w:=hE;have hb1:b≤(a:Int)+(m:Int):=by omega
 have hb2:(a:Int)+(m:Int)≤b:=by omega
 clear hR hv h0 hd hs hE hb;go_enter Tryz.func104,Tryz.ntmps104;go_wp2_with fail
 go_loopg [8] m (fun fu i wr=>∃j:Nat,j+fu=m∧i=.int .i64 (a+j:Nat)∧I (Du g a j) wr)
 case atStart=>exact⟨0,by omega,rfl,H0.out⟩
 case round=>
  obtain⟨j,hj,rfl,hI⟩:=hrel;by_cases hlt:j<m
  ·have hv1:=HV.out _ _ hI;have c0:=hv1.c0;obtain⟨bs,os,rfl,s0⟩:=hv1.hs (a+j) (by omega);rw[HR.out.st (by omega)]at s0;have hsl:=HR.out.stLe (i:=a+j) (j:=a+j+1) (by omega) (by omega);have hst:=HR.out.stTop (i:=a+j+1) (by omega);have hI0:=Aa hI;have hjb:(a:Int)+(j:Int)<b:=by omega
   clear hv1 hI;go_wp2_with fail
   clear hjb;have hpl:(Du g a j).length=st g (a+j) - st g a:=KT HR.out a j (by omega);generalize hij:a+j=i at*;have HIJ:=Aa hij;have hi1:i+1<g.S.length:=by omega
   have hai:a≤i:=by omega
   have him:i<a+m:=by omega
   have hsa:st g a≤st g i:=HR.out.stLe hai (by omega);clear hij s0 c0;obtain⟨wr1,rfl⟩:∃z:World,z=wr:=⟨_,rfl⟩;obtain⟨gk',rfl⟩:∃z:Nat,z=gk:=⟨_,rfl⟩;obtain⟨len,hlen⟩:∃n:Nat,st g (i+1)=st g i+n:=⟨st g (i+1) - st g i,by omega⟩;go_loopg [9] len (fun fu c wr=>∃r:Nat,r+fu=len∧c=.int .i64 (st g i+r:Nat)∧I (Du g a j++Dy g i r) wr)
   case atStart=>exact⟨0,by omega,rfl,by simpa[Dy]using hI0.out⟩
   case round=>
    clear hI0;obtain⟨r,hr,rfl,hI⟩:=hrel;have hv1:=HV.out _ _ hI;have c0:=hv1.c0;obtain⟨b1,o1,e,s1⟩:=hv1.hs (i+1) hi1;cases e;rw[HR.out.st hi1,hlen]at s1;have e1:IntKind.i64.wrap ((i:Int)+1)=((i+1:Nat):Int):=by rw[DS _ (by omega)];simp
    by_cases hlt2:r<len
    ·have c1:=hv1.c1;have c2:=hv1.c2;generalize hk:st g i+r=k at*;have hkT:k<g.T.length:=by omega
     have hkA:k<g.A.length:=by rw[HR.out.lens];exact hkT
     obtain⟨ba,oa,rfl,a0⟩:=hv1.ha k hkA;obtain⟨bt,ot,rfl,t0⟩:=hv1.ht k hkT;have HK:=Aa (HS.out _ i k _ (HD.out _ _ hI) hai him (by omega) (by omega) (by rw[Bs,Ho,hpl];omega));rw[List.append_assoc]at HK;have hnext:Dy g i r++[edge g i k]=Dy g i (r+1):=by rw[Jm,hk]
     rw[hnext]at HK;have HKK:=Aa hk;have b3:(k:Int)<(st g i:Int)+(len:Int):=by omega
     have b1:(k:Int)<(g.A.length:Int):=by omega
     have b2:(k:Int)<(g.T.length:Int):=by omega
     clear hv1 hI hk hnext;generalize g.A.getD k 0=xa at*;generalize g.T.getD k 0=xt at*;go_wp2_with fail
     refine Bo 13 (by kernel_rfl) (by kernel_rfl) ?_;simp only[List.take_succ_cons,List.take_zero,List.drop_succ_cons,List.drop_zero];repeat still_step
     refine wpStill_nil ?_;clear e1;go_wp2_with (go_at_fn N;refine HK.out.mono ?_;rintro e w' ⟨rfl,hI2⟩)
     go_roundg (gk - 1)
     case measure=>omega
     case rel=>exact⟨r+1,by omega,by simp;have:=HKK.out;omega,hI2⟩
    ·obtain rfl:gk=0:=by omega
     obtain rfl:r=len:=by omega
     have hnx:Du g a j++Dy g i r=Du g a (j+1):=by
      rw[Jo,HIJ.out,Lw];have:st g (i+1) - st g i=r:=by omega
      rw[this]
     rw[hnx]at hI;have HI:=Aa hI;clear hI hv1;go_wp2_with fail
     go_roundg (gk' - 1)
     case measure=>omega
     case rel=>exact⟨j+1,by omega,by simp;have:=HIJ.out;omega,HI.out⟩
  ·obtain rfl:gk=0:=by omega
   obtain rfl:j=m:=by omega
   have HI:=Aa hI;clear hI;go_wp2_with fail
   go_end0
   exact⟨rfl,HI.out⟩
theorem Tryz.info54:(Tryz.prog.info? 54).map (fun i=>(i.zero,i.size,i.bytes))=some (some (.agg #[.int .i64 0,.int .i64 0,.int .i64 0]),3,24):=by kernel_rfl
theorem Al{F:Nat→Prop}{w w':World}{base:Nat}{e:TypeId}{size:Nat}{v:Value}{n:Nat}{xs:List Value}(h:w.ownsRow base e size v n xs)(hf:Bn F w w')(hF:∀k,v.ownBlock=some k→¬F k):w'.ownsRow base e size v n xs:=by
 refine⟨h.1,?_⟩;rcases h.2 with hn | ⟨g,cap,cur,rfl,hb,hg,r⟩
 ·exact .inl hn
 ·exact .inr ⟨g,cap,cur,rfl,hb,hf.heap hg (hF g rfl),r⟩
def AA(l:List Ed):List Value:=l.flatMap (fun e=>[.int .i64 e.1,.int .i64 e.2.1,.int .i64 e.2.2])
theorem IV(l k:List Ed):AA (l++k)=AA l++AA k:=by simp[AA]
theorem LC(l:List Ed):∀j,j<l.length→(AA l)[j*3]?=some (.int .i64 (l.getD j (0,0,0)).1)∧(AA l)[j*3+1]?=some (.int .i64 (l.getD j (0,0,0)).2.1)∧(AA l)[j*3+2]?=some (.int .i64 (l.getD j (0,0,0)).2.2):=by
 induction l with
 | nil=>intro j hj;simp at hj
 | cons e l ih=>
  intro j hj;cases j with
  | zero=>simp[AA]
  | succ j=>
   have:=ih j (by simpa using hj);have e0:(j+1)*3=j*3+3:=by omega
   rw[e0];simpa[AA]using this
structure QU(W:World)(lv:Nat)(l:List Ed)(w':World):Prop where
 frm:Bn (fun k=>k=lv) W w'
 own:∃v,w'.heap[lv]?=some (.cells #[v] 55 (0,0))∧w'.ownsRow W.heap.size 54 3 v l.length (AA l)
theorem BC{w:World}{base:Nat}{v:Value}{l:List Ed}(h:w.ownsRow base 54 3 v l.length (AA l)):Ax w v l:=by
 rcases h.2 with⟨rfl,h0⟩ | ⟨g,cap,cur,rfl,hb,hg,hn,hc,hs,ht⟩
 ·have:l=[]:=List.eq_nil_of_length_eq_zero h0;subst this;exact Eh w
 ·refine⟨_,cap,rfl,fun j hj=>⟨g,0,rfl,?_⟩⟩;obtain⟨e1,e2,e3⟩:=LC l j hj;rw[← ht,List.getElem?_take]at e1 e2 e3;rw[if_pos (by omega)]at e1 e2 e3;refine⟨?_,?_,?_⟩
  ·rw[Nat.zero_add];exact Ab hg _ _ (by simpa using e1)
  ·rw[Nat.zero_add];exact Ab hg _ _ (by simpa using e2)
  ·rw[Nat.zero_add];exact Ab hg _ _ (by simpa using e3)
theorem QU.drew{W:World}{lv:Nat}{l:List Ed}{w':World}(h:QU W lv l w'):QU W lv l w'.drew:=⟨h.frm.drew,h.own⟩
theorem YK {W:World} {lv:Nat} {l:List Ed} {w':World} {v:Value} (hlv:lv<W.heap.size) (hf:Bn (fun k=>k=lv) W w') (h1:w'.heap[lv]?=some (.cells #[v] 55 (0,0))) (h2:w'.ownsRow W.heap.size 54 3 v l.length (AA l))
 {o1 o2:Obj} {w4:World} (hg:((w'.alloc o1).alloc o2).grownBy w4 v.ownBlock):w4.cell? ⟨lv,0,none⟩=some v∧w4.frozen? ⟨lv,0,none⟩=false∧Bn (fun k=>k=lv) W w4∧w4.heap[lv]?=some (.cells #[v] 55 (0,0)):=by
 have hne:∀k,v.ownBlock=some k→W.heap.size≤k:=fun k hk=>(h2.lt k hk).1;have hlt:lv<w'.heap.size:=(BO.1 h1).1;have h3:((w'.alloc o1).alloc o2).heap[lv]?=some (.cells #[v] 55 (0,0)):=Ah (Ae _ _) (Ah (Ae _ _) h1);have h4:w4.heap[lv]?=some (.cells #[v] 55 (0,0)):=by
  rw[hg.block lv (by simp;omega) (fun e=>by have:=hne lv e.symm;omega)];exact h3
 refine⟨Ab h4 0 _ rfl,Ag h4 0,?_,h4⟩;exact((hf.alloc o1).alloc o2).grown hg (fun k hk hlt=>by have:=hne k hk;omega)
theorem Tc {W:World} {lv:Nat} {l:List Ed} {e:Ed} {w4:World} {v:Value} {g cap:Nat} (hlv:lv<W.heap.size) (hf:Bn (fun k=>k=lv) W w4) (h4:w4.heap[lv]?=some (.cells #[v] 55 (0,0)))
 (hown:w4.ownsRow W.heap.size 54 3 (.slice (some ⟨g,0,none⟩) (l.length+1) cap) (l.length+1) (AA l++[.int .i64 e.1,.int .i64 e.2.1,.int .i64 e.2.2])):
 QU W lv (l++[e]) (w4.setCell ⟨lv,0,none⟩ (.slice (some ⟨g,0,none⟩) (l.length+1) cap)):=by
 refine⟨hf.setCell (p:=⟨lv,0,none⟩) (fun _=>rfl) _,.slice (some ⟨g,0,none⟩) (l.length+1) cap,?_,?_⟩
 ·rw[Ac h4];rfl
 ·have hg:W.heap.size≤g:=(hown.lt g rfl).1;have:=Al (F:=fun k=>k=lv) hown ((Bn.refl (fun k=>k=lv) w4).setCell (p:=⟨lv,0,none⟩) (fun _=>rfl) (.slice (some ⟨g,0,none⟩) (l.length+1) cap)) (fun k hk e=>by simp[Value.ownBlock]at hk;omega);rw[IV];simpa[AA]using this
theorem Sb(W:World)(lv:Nat)(l:List Ed)(x y z:Int)(w:World)(hlv:lv<W.heap.size)(h:QU W lv l w)(hl:l.length<1000000):
 Calls Tryz.prog 105 #[.agg #[.int .i64 x,.int .i64 y,.int .i64 z],.pointer (some ⟨lv,0,none⟩)] w fun e w'=>e=.returned (.tuple #[])∧QU W lv (l++[(x,y,z)]) w':=by
 obtain⟨i0,hi0,hz0,hz1,hz2⟩:=CE Tryz.info54;obtain⟨hf,v,h1,h2⟩:=h;have hsz:=hf.size;have c0:(w.alloc (.cells #[.int .i64 x,.int .i64 y,.int .i64 z] 54)).cell? ⟨lv,0,none⟩=some v:=Af (Ae _ _) (Ab h1 0 _ rfl);have hne:lv≠w.heap.size:=by omega
 have H1:=Aa h1;have H2:=Aa h2;have HF:=Aa hf;clear h1 h2 hf;go_enter Tryz.func105,Tryz.ntmps105;go_wp2_with (at_builtin;refine wpList_append_lies ((w.alloc (.cells #[.int .i64 x,.int .i64 y,.int .i64 z] 54)).alloc (.cells #[.int .i64 x,.int .i64 y,.int .i64 z] 54)) rfl (.tmp 3) (.tmp 5) 55 rfl W.heap.size 54 i0 (.agg #[.int .i64 0,.int .i64 0,.int .i64 0]) 3 24 Tryz.underlying55 hi0 hz0 hz1 hz2 rfl (by decide) v l.length (AA l) rfl ((H2.out.alloc _).alloc _) ⟨w.heap.size+1,0,none⟩ 1 1 [.int .i64 x,.int .i64 y,.int .i64 z] rfl rfl (World.news_of_block (AG _ _ _ (by simp))) (by simp[Value.oneCell']) (by omega) (by unfold maxLen;omega) (by omega) (by simp;omega) (w.heap.size+1+1) (by simp) ?_;intro g2 cap2 w4 hown2 hgr2 hor2 hlt2;obtain⟨q0,q1,q2,q3⟩:=YK hlv HF.out H1.out H2.out hgr2;have HO:=Aa hown2;clear hgr2 hown2)
 go_end0
 exact⟨rfl,Tc (e:=(x,y,z)) hlv q2 q3 HO.out⟩
end Go.Proofs.YtlhpjfnfemebdaaGreat
