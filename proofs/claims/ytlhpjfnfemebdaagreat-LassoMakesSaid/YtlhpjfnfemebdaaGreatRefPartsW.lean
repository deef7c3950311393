/-
  ref17.Parts: the walk. ref17.Parts: the walk.
-/
import Derived.Test.YtlhpjfnfemebdaaGreatGroupFns
import Derived.Test.YtlhpjfnfemebdaaGreatJPartsMem
import Derived.Test.YtlhpjfnfemebdaaGreatSccParts
set_option linter.unusedSimpArgs false
namespace Go.Proofs.YtlhpjfnfemebdaaGreat
open Go.RowKit
theorem Tryz.info56:(Tryz.prog.info? 56).map (fun i=>(i.zero,i.size,i.bytes))=some (some (.slice none 0 0),1,24):=by kernel_rfl
structure Xl(w wr:World)(gc:Array Value)(g:Gr)(n:Nat)(ov:Value)(k:Nat)(vals:List Value):Prop where
 below:Below w.heap.size w wr
 vg:wr.heap[w.heap.size]?=some (.cells gc 32 (0,0))
 len:vals.length=k
 out:wr.ownsRow (w.heap.size+1) 56 1 ov k vals
 inn:∀j,j<k→∃B,vals.getD j undef=.slice (some ⟨B,0,none⟩) n n∧w.heap.size<B∧wr.heap[B]?=some (.cells (bools (Cq g [(j:Int)])) 4 (0,0))∧ov.ownBlock≠some B
section
variable {w wr w':World} {gc:Array Value} {g:Gr} {n k:Nat} {ov:Value} {vals:List Value}
theorem Xl.more(h:Xl w wr gc g n ov k vals)(hb:Below wr.heap.size wr w'):Xl w w' gc g n ov k vals:=
 ⟨h.below.trans (hb.mono h.below.size),Ah hb h.vg,h.len,Al (F:=fun _=>False) h.out (Df hb _) (fun _ _=>id),fun j hj=>by
  obtain⟨B,e,h1,h2,h3⟩:=h.inn j hj;exact⟨B,e,h1,Ah hb h2,h3⟩⟩
theorem Xl.var(h:Xl w wr gc g n ov k vals):∃a cap,ov=.slice a k cap:=by
 rcases h.out.2 with⟨rfl,e⟩ | ⟨g,cap,cur,rfl,-⟩
 ·exact⟨none,0,by rw[e]⟩
 ·exact⟨_,cap,rfl⟩
theorem Xl.push (h:Xl w wr gc g n ov k vals) {w1:World} (hb:Below wr.heap.size wr w1) {B:Nat} (hB:wr.heap.size≤B) (hBr:w1.heap[B]?=some (.cells (bools (Cq g [(k:Int)])) 4 (0,0))) {o:Obj} {g3 cap:Nat}
 (hg:(w1.alloc o).grownBy w' ov.ownBlock) (hor:ov.ownBlock=some g3∨g3=w1.heap.size+1) (hown:w'.ownsRow (w.heap.size+1) 56 1 (.slice (some ⟨g3,0,none⟩) (k+1) cap) (k+1) (vals++[.slice (some ⟨B,0,none⟩) n n])):
 Xl w w' gc g n (.slice (some ⟨g3,0,none⟩) (k+1) cap) (k+1) (vals++[.slice (some ⟨B,0,none⟩) n n]):=by
 have h1:=h.more (hb.trans ((Ae w1 o).mono hb.size));have hsz:=h.below.size;have hsz1:=hb.size;have hlen:=h.len;have hBlt:=(BO.1 hBr).1;have hvl:=(BO.1 h.vg).1;have holt:∀q,ov.ownBlock=some q→q<wr.heap.size:=fun q hq=>(h.out.lt q hq).2;have hBo:ov.ownBlock≠some B:=fun e=>by have:=holt B e;omega
 have hkeep:∀(q:Nat) (ob:Obj),ov.ownBlock≠some q→(w1.alloc o).heap[q]?=some ob→w'.heap[q]?=some ob:=fun q ob hq hh=>by
  rw[hg.block q (BO.1 hh).1 (fun e=>hq e.symm)];exact hh
 refine⟨Below.own (v:=ov) (h.below.trans (hb.mono hsz)) (m:=k) (xs:=vals) (e:=56) (size:=1) ?_ hg,hkeep _ _ (fun e=>by have:=(h.out.lt _ e).1;omega) h1.vg,by simp[hlen],hown,fun j hj=>?_⟩
 ·have:=Al (F:=fun _=>False) h.out (Df hb _) (fun _ _=>id);obtain⟨l,r⟩:=this;refine⟨l,?_⟩;rcases r with r | ⟨g,cap,cur,e,hbg,r⟩
  ·exact .inl r
  ·exact .inr ⟨g,cap,cur,e,by omega,r⟩
 ·by_cases e:j<k
  ·obtain⟨B',e1,e2,e3,e4⟩:=h1.inn j e;refine⟨B',by rw[Ei _ _ _ _ (by omega),if_pos (by omega)];exact e1,e2,hkeep _ _ e4 e3,?_⟩;intro e5;have e6:g3=B':=by simpa[Value.ownBlock]using e5
   subst e6;rcases hor with e7 | e7
   ·exact e4 e7
   ·obtain⟨B2,e8,-,e9,-⟩:=h.inn j e;rw[e1]at e8;have:g3=B2:=by simpa using e8
    subst this;have:=(BO.1 e9).1;omega
  ·obtain rfl:j=k:=by omega
   refine⟨B,by rw[Ei _ _ _ _ (by omega),if_neg (by omega)],by omega,hkeep _ _ hBo (Ah (Ae _ _) hBr),?_⟩;intro e5;have e6:g3=B:=by simpa[Value.ownBlock]using e5
   rcases hor with e7 | e7
   ·rw[e6]at e7;exact hBo e7
   ·omega
theorem Xl.cell(h:Xl w wr gc g n ov k vals)(hR:Rt g)(hgn:Ad g=n){i j:Nat}(hi:i<k)(hj:j<n):
 ∃ob oc B,ov=.slice (some ⟨ob,0,none⟩) k oc∧wr.cell? ⟨ob,i,none⟩=some (.slice (some ⟨B,0,none⟩) n n)∧wr.cell? ⟨B,j,none⟩=some (.bool ((Cq g [(i:Int)]).getD j false)):=by
 obtain⟨ob,e1,⟨oc,e3⟩,e2⟩:=BL h.out hi;obtain⟨B,e4,-,e5,-⟩:=h.inn i hi;refine⟨ob,oc,B,e3,by rw[e2,e4],Ab e5 j _ (Co _ j (by rw[Ig hR,hgn];exact hj))⟩
end
def Un(E:Nat→Nat→Bool)(i q:Nat):Int:=match (List.range q).find? (fun k=>E i k) with | some j=>((Mp E j:Nat):Int) | none=>-1
theorem XN{E:Nat→Nat→Bool}{i q:Nat}(h:0≤Un E i q∨E i q=false):Un E i (q+1)=Un E i q:=by
 unfold Un at h ⊢;rw[List.range_succ,List.find?_append];rcases e:(List.range q).find? (fun k=>E i k) with _ | j
 ·rw[e]at h;rcases h with h | h
  ·simp at h
  ·simp[h]
 ·rfl
theorem bI{E:Nat→Nat→Bool}{i q:Nat}(h:Un E i q<0)(hE:E i q=true):Un E i (q+1)=((Mp E q:Nat):Int):=by
 unfold Un at h ⊢;rw[List.range_succ,List.find?_append];rcases e:(List.range q).find? (fun k=>E i k) with _ | j
 ·simp[hE]
 ·rw[e]at h;simp at h;omega
theorem cN{E:Nat→Nat→Bool}{i:Nat}(h:0≤Un E i i):((DZ E (i+1)).1.map (fun x:Nat=>(x:Int)))=(DZ E i).1.map (fun x:Nat=>(x:Int))++[Un E i i]∧(DZ E (i+1)).2=(DZ E i).2:=by
 unfold Un at h ⊢;rcases e:(List.range i).find? (fun k=>E i k) with _ | j
 ·rw[e]at h;simp at h
 ·refine⟨?_,EZ e⟩;show(CZ E i (DZ E i)).1.map _=_;unfold CZ;rw[e];simp only[Ec,List.map_cons,List.map_nil];rw[Hg E i j (Cg.1 (List.mem_of_find?_eq_some e))]
theorem aB{E:Nat→Nat→Bool}{i:Nat}(h:Un E i i<0):((DZ E (i+1)).1.map (fun x:Nat=>(x:Int)))=(DZ E i).1.map (fun x:Nat=>(x:Int))++[(((DZ E i).2:Nat):Int)]∧(DZ E (i+1)).2=(DZ E i).2+1:=by
 unfold Un at h;rcases e:(List.range i).find? (fun k=>E i k) with _ | j
 ·refine⟨?_,Fa e⟩;show(CZ E i (DZ E i)).1.map _=_;unfold CZ;rw[e];simp
 ·rw[e]at h;simp at h;omega
noncomputable def RE(g:Gr)(i k:Nat):Bool:=(Cq g [(i:Int)]).getD k false&&(Cq g [(k:Int)]).getD i false
theorem YR(g:Gr):(DZ (RE g) (Ad g)).1=GM g:=by
 refine Hu fun i k hi hk=>?_;have hR:Rt g:=by
  refine(Aq g).1 ?_;cases e:Bj g
  ·rw[Cp e]at hi;omega
  ·rfl
 unfold RE;rw[Ci,Pq hR hi (by omega),Pq hR (by omega) hi];exact Iff.rfl
set_option maxRecDepth 100000 in
set_option maxHeartbeats 8000000 in
theorem PT(v:Value)(g:Gr)(w:World)(h:Ao w v g)(hn:Ad g≤100000):
 Calls Tryz.prog 71 #[v] w fun e w'=>∃rv,e=.returned rv∧Am w' rv (Be g)∧Below w.heap.size w w':=by
 obtain⟨i0,hi0,hz0,hz1,hz2⟩:=CE (Tryz.info3);obtain⟨j0,hj0,hw0,hw1,hw2⟩:=CE Tryz.info56;obtain⟨sa,aa,ta,sc,ac,tc,rfl,-⟩:=h.var;have hb:=Ae w (.cells #[.slice sa g.S.length sc,.slice aa g.A.length ac,.slice ta g.T.length tc] 32);have NN:=Aa (El _ g _ (h.below hb));have HB:=Aa hb;have X0:=Aa (Ar w (.cells #[.slice sa g.S.length sc,.slice aa g.A.length ac,.slice ta g.T.length tc] 32));have hRt:0<Ad g→Rt g:=fun h0=>by
  refine(Aq g).1 ?_;cases e:Bj g
  ·rw[Cp e]at h0;omega
  ·rfl
 have HR:=Aa hRt;have RCH:=Aa (fun(hR:Rt g) (w':World) (hw:Below w.heap.size w w') (u:Value) (fr:List Int) (hu:Am w' u fr) (hl:fr.length≤1000000)=>TT _ u g fr w' (h.below hw) hu hR hl);have RP:=Aa (YR g);clear h hb hRt;obtain⟨n,hnn⟩:∃n,Ad g=n:=⟨_,rfl⟩;rw[hnn]at NN hn HR RP;have HNN:=Aa hnn;clear hnn;go_enter Tryz.func71,Tryz.ntmps71;go_wp2_with (first
  | (go_at_call 30;refine NN.out.mono ?_;rintro e w1 ⟨rfl,hb1⟩;have hb2:=HB.out.trans (hb1.mono HB.out.size);have R0:=Aa (show Xl w w1 #[.slice sa g.S.length sc,.slice aa g.A.length ac,.slice ta g.T.length tc] g n (.slice none 0 0) 0 [] from⟨hb2,Ah hb1 X0.out,rfl,CO _ _ _ _,fun j hj=>by omega⟩);have d0:=Af hb1 (Ab X0.out 0 _ rfl);have d1:=Af hb1 (Ab X0.out 1 _ rfl);have d2:=Af hb1 (Ab X0.out 2 _ rfl);clear hb1 hb2))
 clear d0 d1 d2 NN HB X0;go_loopg [4,5] n (fun fu ov c wr=>∃(k:Nat) (vals:List Value),k+fu=n∧c=.int .i64 k∧Hid (Xl w wr #[.slice sa g.S.length sc,.slice aa g.A.length ac,.slice ta g.T.length tc] g n ov k vals))
 case atStart=>exact⟨0,[],by omega,rfl,R0⟩
 case round=>
  clear R0;obtain⟨k,vals,hk,rfl,HM⟩:=hrel;obtain⟨oa,oc,rfl⟩:=HM.out.var;by_cases hlt:k<n
  ·have i1:(k:Int)<(n:Int):=by omega
   have hR:=HR.out (by omega);obtain⟨d0,d1,d2⟩:=DY HM.out.vg;have HI:Hid (Am (wr.alloc (.cells #[.int .i64 k] 3)) (.slice (some ⟨wr.heap.size,0,none⟩) 1 1) [(k:Int)]):=Aa (BQ (xs:=[(k:Int)]) (Ar wr _) rfl 1);have HC:=Aa (RCH.out hR (wr.alloc (.cells #[.int .i64 k] 3)) (HM.out.below.trans ((Ae wr _).mono HM.out.below.size)) _ _ HI.out (by simp));have HL:Hid ((Cq g [(k:Int)]).length=n):=Aa (by rw[Ig hR,HNN.out]);have HR2:=Aa hR;clear hR;go_wp2_with (first
    | (go_at_call 90;refine HC.out.mono ?_;rintro e w1 ⟨B,rfl,hB,hBl,hb1⟩;rw[HL.out];have HB:=Aa hB;have HBL:=Aa hBl;have HB1:=Aa ((Ae wr (.cells #[.int .i64 k] 3)).trans (hb1.mono (Ae wr _).size));have hs1:=HB1.out.size;clear hB hBl hb1)
    | (at_builtin;refine wpList_append_lies (w1.alloc (.cells #[.slice (some ⟨B,0,none⟩) n n] 56)) rfl (.tmp 18) (.tmp 23) 38 rfl (w.heap.size+1) 56 j0 (.slice none 0 0) 1 24 Tryz.underlying38 hj0 hw0 hw1 hw2 rfl (by decide) (.slice oa k oc) k vals rfl (((HM.out.more HB1.out).out).alloc _) ⟨w1.heap.size,0,none⟩ 1 1 [.slice (some ⟨B,0,none⟩) n n] rfl rfl (World.news_of_block (Ar _ _)) (by simp[Value.oneCell']) (by omega) (by unfold maxLen;omega) (by omega) (by have:=(BO.1 HM.out.vg).1;simp;omega) (w1.heap.size+1) (by simp) ?_;intro g3 cap3 w3 hown3 hgr3 hor3 hlt3;have HM3:=Aa (HM.out.push HB1.out (by have:=HBL.out;simp at this;omega) HB.out hgr3 hor3 hown3);clear hown3 hgr3 hor3))
   go_roundg (n - (k+1))
   case measure=>omega
   case rel=>exact⟨k+1,_,by omega,by simp,HM3⟩
  ·obtain rfl:k=n:=by omega
   obtain⟨W2,rfl⟩:∃z:World,z=wr:=⟨_,rfl⟩;go_wp2_with fail
   go_loopg [6,7,8] k (fun fu tv nx c wr2=>∃i:Nat,i+fu=k∧c=.int .i64 i∧nx=.int .i64 (((DZ (RE g) i).2:Nat):Int)∧Hid (Below W2.heap.size W2 wr2∧wr2.ownsRow W2.heap.size 3 1 tv i (((DZ (RE g) i).1.map (fun x:Nat=>(x:Int))).map (Value.int .i64))))
   case atStart=>exact⟨0,by omega,rfl,rfl,Aa ⟨Ak _ _,CO _ _ _ _⟩⟩
   case round=>
    obtain⟨i,hik,rfl,rfl,HS⟩:=hrel;by_cases hlt2:i<k
    ·have hR:=HR.out (by omega);have hM2:=HM.out.more HS.out.1;have HM2:=Aa hM2;have HR2:=Aa hR;obtain⟨ob,oc',B0,e0,-,-⟩:=hM2.cell hR HNN.out hlt2 hlt2;simp only[Value.slice.injEq,true_and]at e0;obtain⟨rfl,rfl⟩:=e0;clear hM2 hR;have j1:(i:Int)<(k:Int):=by omega
     obtain⟨wr3,rfl⟩:∃z:World,z=wr:=⟨_,rfl⟩;go_wp2_with fail
     go_loopg [9,10] i (fun fu p c wr4=>∃q:Nat,q+fu=i∧c=.int .i64 q∧p=.int .i64 (Un (RE g) i q)∧wr3=wr4)
     case atStart=>exact⟨0,by omega,rfl,rfl,rfl⟩
     case round=>
      obtain⟨q,hqi,rfl,rfl,rfl⟩:=hrel;by_cases hlt3:q<i
      ·have j2:(q:Int)<(i:Int):=by omega
       have j3:(q:Int)<(k:Int):=by omega
       obtain⟨ob1,oc1,B1,e1,c1,c2⟩:=HM2.out.cell HR2.out HNN.out hlt2 (j:=q) (by omega);simp only[Value.slice.injEq,Option.some.injEq,Addr.mk.injEq,and_true,true_and]at e1;obtain⟨rfl,-⟩:=e1;obtain⟨ob1,oc1,B2,e1,c3,c4⟩:=HM2.out.cell HR2.out HNN.out (i:=q) (j:=i) (by omega) hlt2;simp only[Value.slice.injEq,Option.some.injEq,Addr.mk.injEq,and_true,true_and]at e1;obtain⟨rfl,-⟩:=e1;have hS1:=Aa (XN (E:=RE g) (i:=i) (q:=q));have hS2:=Aa (bI (E:=RE g) (i:=i) (q:=q));have hRE:Hid (RE g i q=((Cq g [(i:Int)]).getD q false&&(Cq g [(q:Int)]).getD i false)):=Aa rfl;obtain⟨tb,-,⟨tc,rfl⟩,c5⟩:=BL HS.out.2 hlt3;have hcq:((List.map (Value.int .i64) (List.map (fun x:Nat=>(x:Int)) (DZ (RE g) i).1)).getD q undef)=.int .i64 ((Mp (RE g) q:Nat):Int):=by
        have e:=Hg (RE g) i q hlt3;have hl:=Fb (RE g) i;rw[AM,Bf (by omega)]at e;simp only[Option.getD_some]at e;simp[hl,hlt3,e]
       rw[hcq]at c5;clear hcq;generalize (Cq g [(i:Int)]).getD q false=r1 at*;generalize (Cq g [(q:Int)]).getD i false=r2 at*;obtain⟨p,hp⟩:∃p,Un (RE g) i q=p:=⟨_,rfl⟩;rw[hp]at hS1 hS2;have HPP:=Aa hp;rw[hp];clear hp;by_cases hneg:p<0
       ·cases r1
        ·have e:=hS1.out (.inr (by rw[hRE.out];rfl));have E:=Aa e;clear hS1 hS2 e;go_wp2_with fail
         go_roundg (i - (q+1))
         case measure=>omega
         case rel=>exact⟨q+1,by omega,by simp,by rw[E.out],rfl⟩
        ·cases r2
         ·have e:=hS1.out (.inr (by rw[hRE.out];rfl));have E:=Aa e;clear hS1 hS2 e;go_wp2_with fail
          go_roundg (i - (q+1))
          case measure=>omega
          case rel=>exact⟨q+1,by omega,by simp,by rw[E.out],rfl⟩
         ·have e:=hS2.out hneg (by rw[hRE.out];rfl);have E:=Aa e;clear hS1 hS2 e;go_wp2_with fail
          go_roundg (i - (q+1))
          case measure=>omega
          case rel=>exact⟨q+1,by omega,by simp,by rw[E.out],rfl⟩
       ·have e:=hS1.out (.inl (by omega));have E:=Aa e;clear hS1 hS2 e;go_wp2_with fail
        go_roundg (i - (q+1))
        case measure=>omega
        case rel=>exact⟨q+1,by omega,by simp,by rw[E.out],rfl⟩
      ·obtain rfl:q=i:=by omega
       obtain⟨p,hp⟩:∃p,Un (RE g) q q=p:=⟨_,rfl⟩;obtain⟨nz,hnz⟩:∃z,(DZ (RE g) q).2=z:=⟨_,rfl⟩;have hnl:=Fe (RE g) q;rw[hnz]at hnl ⊢;rw[hp];by_cases hneg:p<0
       ·have HY:=Aa (aB (E:=RE g) (i:=q) (by rw[hp];exact hneg));rw[hnz]at HY;have hw:IntKind.i64.wrap ((nz:Int)+1)=(nz:Int)+1:=DS _ (by omega);clear hp hnz;go_wp2_with (at_builtin;refine wpList_append_lies (wr3.alloc (.cells #[.int .i64 nz] 3)) rfl (.tmp 64) (.tmp 66) 22 rfl W2.heap.size 3 i0 (.int .i64 0) 1 8 Tryz.underlying22 hi0 hz0 hz1 hz2 rfl (by decide) u6 q _ rfl (HS.out.2.alloc _) ⟨wr3.heap.size,0,none⟩ 1 1 [.int .i64 nz] rfl rfl (World.news_of_block (Ar _ _)) (by simp[Value.oneCell']) (by omega) (by unfold maxLen;omega) (by omega) (by have:=HS.out.1.size;simp;omega) (wr3.heap.size+1) (by simp) ?_;intro g3 cap3 w3 hown3 hgr3 hor3 hlt3;have HO3:=Aa hown3;have HB3:=Aa (Below.own HS.out.1 HS.out.2 hgr3);clear hown3 hgr3 hor3)
        go_roundg (k - (q+1))
        case measure=>omega
        case rel=>exact⟨q+1,by omega,by simp,by rw[HY.out.2];rfl,Aa ⟨HB3.out,by rw[HY.out.1,Ec];exact HO3.out⟩⟩
       ·have HY:=Aa (cN (E:=RE g) (i:=q) (by rw[hp];omega));rw[hnz,hp]at HY;clear hp hnz;go_wp2_with (at_builtin;refine wpList_append_lies (wr3.alloc (.cells #[.int .i64 p] 3)) rfl (.tmp 64) (.tmp 66) 22 rfl W2.heap.size 3 i0 (.int .i64 0) 1 8 Tryz.underlying22 hi0 hz0 hz1 hz2 rfl (by decide) u6 q _ rfl (HS.out.2.alloc _) ⟨wr3.heap.size,0,none⟩ 1 1 [.int .i64 p] rfl rfl (World.news_of_block (Ar _ _)) (by simp[Value.oneCell']) (by omega) (by unfold maxLen;omega) (by omega) (by have:=HS.out.1.size;simp;omega) (wr3.heap.size+1) (by simp) ?_;intro g3 cap3 w3 hown3 hgr3 hor3 hlt3;have HO3:=Aa hown3;have HB3:=Aa (Below.own HS.out.1 HS.out.2 hgr3);clear hown3 hgr3 hor3)
        go_roundg (k - (q+1))
        case measure=>omega
        case rel=>exact⟨q+1,by omega,by simp,by rw[HY.out.2],Aa ⟨HB3.out,by rw[HY.out.1,Ec];exact HO3.out⟩⟩
    ·obtain rfl:i=k:=by omega
     go_wp2_with fail
     go_ret;refine⟨_,rfl,?_,HM.out.below.trans (HS.out.1.mono HM.out.below.size)⟩;have e:Be g=(DZ (RE g) i).1.map (fun x:Nat=>(x:Int)):=by unfold Be;rw[← RP.out]
     have hl:((DZ (RE g) i).1.map (fun x:Nat=>(x:Int))).length=i:=by simp[Fb]
     rw[e];exact DU (by rw[hl];exact HS.out.2)
end Go.Proofs.YtlhpjfnfemebdaaGreat
