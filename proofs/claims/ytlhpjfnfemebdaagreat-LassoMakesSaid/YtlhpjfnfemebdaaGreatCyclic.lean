/-
  ref17.Same, has; both Cyclic: the walks. scc.Cyclic: the walk.
-/
import Derived.Test.YtlhpjfnfemebdaaGreatRefPartsW
import Derived.Test.YtlhpjfnfemebdaaGreatJBase
import Derived.Deep.QuietTactic
import Derived.Test.YtlhpjfnfemebdaaGreatMade2
set_option maxRecDepth 100000
set_option maxHeartbeats 64000000
namespace Go.Proofs.YtlhpjfnfemebdaaGreat
open Go.RowKit
theorem ZS(v:Value)(l:List Int)(x:Int)(w:World)(h:Am w v l)(hl:l.length≤1000000):
 Calls Tryz.prog 92 #[v,.int .i64 x] w fun e w'=>e=.returned (.bool (decide (x∈l)))∧Below w.heap.size w w':=by
 obtain⟨a,ac,rfl,ha⟩:=h;have HA:=Aa ha;clear ha;go_enter Tryz.func92,Tryz.ntmps92;go_wp2_with fail
 go_loopg [5] l.length (fun fu c wr=>∃k:Nat,k+fu=l.length∧c=.int .i64 k∧(∀j,j<k→l.getD j 0≠x)∧w=wr)
 case atStart=>exact⟨0,by omega,rfl,fun j hj=>by omega,rfl⟩
 case round=>
  obtain⟨k,hk,rfl,hall,rfl⟩:=hrel;by_cases hlt:k<l.length
  ·obtain⟨b1,o1,rfl,d1⟩:=HA.out k hlt;have z1:(k:Int)<(l.length:Int):=by omega
   have HM:=Aa (show l.getD k 0∈l from Ch hlt);have HL:=Aa hall;have hnx:l.getD k 0≠x→∀j,j<k+1→l.getD j 0≠x:=fun hne j hj=>by
    by_cases e:j=k
    ·rw[e];exact hne
    ·exact HL.out j (by omega)
   have HN:=Aa hnx;clear hall hnx;generalize l.getD k 0=y at*;by_cases e:y=x
   ·go_wp2_with fail
    go_ret;exact⟨by rw[← e,Ck HM.out];rfl,Ak _ _⟩
   ·go_wp2_with fail
    go_roundg (l.length - (k+1))
    case measure=>omega
    case rel=>exact⟨k+1,by omega,by simp,HN.out e,rfl⟩
  ·have e:x∉l:=fun hm=>by
    obtain⟨j,hj,e⟩:=Ey hm;refine hall j (by omega) ?_;rw[AM,Bf hj];simpa using e
   go_wp2_with fail
   go_ret;exact⟨by rw[Cj e];rfl,Ak _ _⟩
open Classical in
noncomputable def CV(g:Gr)(l:List Int):Bool:=decide (∃e∈Av g,e.1∈l∧e.2.2∈l)
theorem QI(v u:Value)(g:Gr)(l:List Int)(w:World)(h:Ao w v g)(hu:Am w u l)(hl:l.length≤1000000):
 Calls Tryz.prog 75 #[v,u] w fun e w'=>e=.returned (.bool (CV g l))∧Below w.heap.size w w':=by
 obtain⟨sa,aa,ta,sc,ac,tc,rfl,-⟩:=h.var;have hb:=Ae w (.cells #[.slice sa g.S.length sc,.slice aa g.A.length ac,.slice ta g.T.length tc] 32);have RA:=Aa (Kl _ g _ (h.below hb));have HB:=Aa hb;have X0:=Aa (Ar w (.cells #[.slice sa g.S.length sc,.slice aa g.A.length ac,.slice ta g.T.length tc] 32));have HH:=Aa (fun(w':World) (hw:Below w.heap.size w w') (x:Int)=>ZS u l x w' (hu.below hw) hl);have HE:Hid (∀k,(∀j,j<k→¬(((Av g).getD j (0,0,0)).1∈l∧((Av g).getD j (0,0,0)).2.2∈l))→k=(Av g).length→CV g l=false):=Aa (fun k hall hk=>by
  unfold CV;refine Cj ?_;rintro⟨e,he,h1,h2⟩;obtain⟨j,hj,rfl⟩:=Ey he;refine hall j (by omega) ?_;rw[AM,Bf hj];exact⟨h1,h2⟩)
 have HY:Hid (∀k,k<(Av g).length→((Av g).getD k (0,0,0)).1∈l→((Av g).getD k (0,0,0)).2.2∈l→CV g l=true):=Aa (fun k hk h1 h2=>by
  unfold CV;refine Ck ⟨(Av g).getD k (0,0,0),?_,h1,h2⟩;rw[AM,Bf hk];simp)
 have hal:(Av g).length≤1000000:=by
  cases e:Bj g
  ·rw[Gf e];simp
  ·rw[Gd ((Aq g).1 e)];exact h.sT
 clear h hb hu hl;generalize Av g=al at*;go_enter Tryz.func75,Tryz.ntmps75;go_wp2_with (go_at_call 70;refine RA.out.mono ?_;rintro e w1 ⟨rv,rfl,hE,hb1⟩;obtain⟨ea,ec,rfl,hE⟩:=hE;have HED:=Aa hE;have HB1:=Aa (HB.out.trans (hb1.mono HB.out.size));clear hb1 hE)
 go_loopg [6] al.length (fun fu c wr=>∃k:Nat,k+fu=al.length∧c=.int .i64 k∧(∀j,j<k→¬((al.getD j (0,0,0)).1∈l∧(al.getD j (0,0,0)).2.2∈l))∧Below w1.heap.size w1 wr)
 case atStart=>exact⟨0,by omega,rfl,fun j hj=>by omega,Ak _ _⟩
 case round=>
  obtain⟨k,hk,rfl,hall,hbr⟩:=hrel;by_cases hlt:k<al.length
  ·obtain⟨b1,o1,rfl,d1,-,d3⟩:=HED.out k hlt;have y1:=Af hbr d1;have HBR:=Aa hbr;have D3:=Aa d3;have z1:(k:Int)<(al.length:Int):=by omega
   have HL:=Aa hall;have hnx:¬((al.getD k (0,0,0)).1∈l∧(al.getD k (0,0,0)).2.2∈l)→∀j,j<k+1→¬((al.getD j (0,0,0)).1∈l∧(al.getD j (0,0,0)).2.2∈l):=fun hne j hj=>by
    by_cases e:j=k
    ·rw[e];exact hne
    ·exact HL.out j (by omega)
   have HN:=Aa hnx;have HK:=Aa (HY.out k hlt);clear hall hnx d1 d3 hbr;generalize al.getD k (0,0,0)=ed at*;obtain⟨ex,ey,ez⟩:=ed;have H1:=Aa (HH.out wr (HB1.out.trans (HBR.out.mono HB1.out.size)) ex);by_cases m1:ex∈l
   ·rw[Ck m1]at H1;by_cases m2:ez∈l
    ·go_wp2_with (first
      | (go_at_call_of 92 (Value.int .i64 ex);refine H1.out.mono ?_;rintro e w2 ⟨rfl,hb2⟩;have HB2:=Aa (HBR.out.trans (hb2.mono HBR.out.size));have y3:=Af HB2.out D3.out;have H2:=Aa (HH.out w2 (HB1.out.trans (HB2.out.mono HB1.out.size)) ez);rw[Ck m2]at H2;clear hb2)
      | (go_at_call_of 92 (Value.int .i64 ez);refine H2.out.mono ?_;rintro e w3 ⟨rfl,hb3⟩;have HB3:=Aa (HB2.out.trans (hb3.mono HB2.out.size));clear hb3))
     go_ret;exact⟨by rw[HK.out m1 m2];rfl,HB1.out.trans (HB3.out.mono HB1.out.size)⟩
    ·go_wp2_with (first
      | (go_at_call_of 92 (Value.int .i64 ex);refine H1.out.mono ?_;rintro e w2 ⟨rfl,hb2⟩;have HB2:=Aa (HBR.out.trans (hb2.mono HBR.out.size));have y3:=Af HB2.out D3.out;have H2:=Aa (HH.out w2 (HB1.out.trans (HB2.out.mono HB1.out.size)) ez);rw[Cj m2]at H2;clear hb2)
      | (go_at_call_of 92 (Value.int .i64 ez);refine H2.out.mono ?_;rintro e w3 ⟨rfl,hb3⟩;have HB3:=Aa (HB2.out.trans (hb3.mono HB2.out.size));clear hb3))
     go_roundg (al.length - (k+1))
     case measure=>omega
     case rel=>exact⟨k+1,by omega,by simp,HN.out (fun q=>m2 q.2),HB3.out⟩
   ·rw[Cj m1]at H1;go_wp2_with (first
     | (go_at_call_of 92 (Value.int .i64 ex);refine H1.out.mono ?_;rintro e w2 ⟨rfl,hb2⟩;have HB2:=Aa (HBR.out.trans (hb2.mono HBR.out.size));clear hb2))
    go_roundg (al.length - (k+1))
    case measure=>omega
    case rel=>exact⟨k+1,by omega,by simp,HN.out (fun q=>m1 q.1),HB2.out⟩
  ·obtain rfl:k=al.length:=by omega
   have e:=HE.out _ hall rfl;go_wp2_with fail
   go_ret;exact⟨by rw[e];rfl,HB1.out.trans (hbr.mono HB1.out.size)⟩
theorem BZ{g:Gr}{i:Int}{e:Ed}:e∈AR g i↔e∈Av g∧e.1=i:=by
 cases hr:Bj g
 ·rw[Gf hr];unfold AR;rw[if_neg (fun h=>by rw[hr]at h;cases h.1)];simp
 ·have hR:=(Aq g).1 hr;have hn:=Ap hR;unfold AR;rw[Qi hR];constructor
  ·intro h;by_cases hc:Bj g=true∧0≤i∧i+1<g.S.length
   ·rw[if_pos hc]at h;obtain⟨-,h1,h2⟩:=hc;exact⟨⟨i.toNat,by omega,h⟩,by rw[Fz h];omega⟩
   ·rw[if_neg hc]at h;cases h
  ·rintro⟨⟨j,hj,he⟩,hi⟩;have:=Fz he;have hij:i=(j:Int):=by omega
   subst hij;rw[if_pos ⟨hr,by omega,by omega⟩];simpa using he
theorem Uy{g:Gr}{w:World}{v:Value}(h:Ao w v g){i:Int}{e:Ed}(he:e∈AR g i):(Lit.int .i64 e.2.2).wf=true:=by
 have hm:=(BZ.1 he).1;cases hr:Bj g
 ·rw[Gf hr]at hm;cases hm
 ·have:=Bt ((Aq g).1 hr) hm;have:=h.sS;exact WalkArith.wf_i64 (by omega)
def cJ(l:List Int)(k:Nat)(f:Int→Option Int):Prop:=∀p,0≤(f p).getD 0∧(f p).getD 0≤(k:Int)∧(0<(f p).getD 0↔p∈l.take k)
theorem WE(l:List Int):cJ l 0 (fun _=>none):=fun p=>⟨by simp,by simp,by simp⟩
theorem WR{l:List Int}{k:Nat}{f:Int→Option Int}(h:cJ l k f)(hk:k<l.length):cJ l (k+1) (fun x=>if x=l.getD k 0 then some ((f (l.getD k 0)).getD 0+1) else f x):=by
 intro p;have e:l.take (k+1)=l.take k++[l.getD k 0]:=by
  rw[List.take_add_one,AM,Bf hk];rfl
 rw[e];obtain⟨h1,h2,h3⟩:=h (l.getD k 0);obtain⟨g1,g2,g3⟩:=h p;show 0≤(if p=l.getD k 0 then some ((f (l.getD k 0)).getD 0+1) else f p).getD 0∧(if p=l.getD k 0 then some ((f (l.getD k 0)).getD 0+1) else f p).getD 0≤((k+1:Nat):Int)∧(0<(if p=l.getD k 0 then some ((f (l.getD k 0)).getD 0+1) else f p).getD 0↔p∈l.take k++[l.getD k 0]);by_cases hp:p=l.getD k 0
 ·rw[if_pos hp];simp only[Option.getD_some,CJ,Ds];exact⟨by omega,by omega,⟨fun _=>.inr hp,fun _=>by omega⟩⟩
 ·rw[if_neg hp];simp only[CJ,Ds];exact⟨g1,by omega,⟨fun q=>.inl (g3.1 q),fun q=>g3.2 (by rcases q with q | q;exact q;exact absurd q hp)⟩⟩
theorem dP(v u:Value)(g:Gr)(l:List Int)(w:World)(h:Ao w v g)(hu:Am w u l)(hw:∀x∈l,(Lit.int .i64 x).wf=true)(hl:l.length≤1000000):
 Calls Tryz.prog 102 #[v,u] w fun e w'=>e=.returned (.bool (CV g l))∧Below w.heap.size w w':=by
 obtain⟨sa,aa,ta,sc,ac,tc,rfl,-⟩:=h.var;obtain⟨a,c,rfl,ha⟩:=hu;have hmm:=@run_makeMap Tryz.prog;have hb:=Ae w (.cells #[.slice sa g.S.length sc,.slice aa g.A.length ac,.slice ta g.T.length tc] 32);have OUT:=Aa (fun(w':World) (hw:Below w.heap.size w w') (i:Int)=>NT _ g i w' (h.below hw));have OWF:=Aa (fun(i:Int) (e:Ed) (he:e∈AR g i)=>Uy h he);have OLEN:=Aa (fun(i:Int)=>CP (Fk g i) h.sT);have X0:=Aa (Ar w (.cells #[.slice sa g.S.length sc,.slice aa g.A.length ac,.slice ta g.T.length tc] 32));have hb2:=hb.trans ((Ae (w.alloc (.cells #[.slice sa g.S.length sc,.slice aa g.A.length ac,.slice ta g.T.length tc] 32)) (.map #[] 0)).mono hb.size);have M0:=Aa (Bu.made (w.alloc (.cells #[.slice sa g.S.length sc,.slice aa g.A.length ac,.slice ta g.T.length tc] 32)));have X1:=Aa (Ah (Ae (w.alloc (.cells #[.slice sa g.S.length sc,.slice aa g.A.length ac,.slice ta g.T.length tc] 32)) (.map #[] 0)) X0.out);have HB:=Aa hb2;have HA:=Aa ha;have HW:=Aa hw;rw[World.size_alloc]at M0;clear h hb hb2 ha hw X0;go_enter Tryz.func102,Tryz.ntmps102;go_wp2_with fail
 go_loopg [15] l.length (fun fu c wr=>∃(k m sz:Nat) (f:Int→Option Int),k+fu=l.length∧c=.int .i64 k∧m≤k∧cJ l k f∧Bu wr (w.heap.size+1) m f sz∧Below w.heap.size w wr∧wr.heap[w.heap.size]?=some (.cells #[.slice sa g.S.length sc,.slice aa g.A.length ac,.slice ta g.T.length tc] 32))
 case atStart=>exact⟨0,0,0,_,by omega,rfl,AQ _,WE l,M0.out,HB.out,X1.out⟩
 case round=>
  clear M0 HB X1;obtain⟨k,m,sz,f,hk,rfl,hm,hf,hM,hb,hx⟩:=hrel;by_cases hlt:k<l.length
  ·obtain⟨b1,o1,rfl,d1⟩:=HA.out k hlt;have y1:=Af hb d1;have z1:(k:Int)<(l.length:Int):=by omega
   have hst:=WR hf hlt;have hwf:=HW.out _ (Ch hlt);have hfp:=hf (l.getD k 0);generalize l.getD k 0=p at*;have hwr:IntKind.i64.wrap ((f p).getD 0+1)=(f p).getD 0+1:=DS _ (by omega);have HM:=Aa hM;have HWF:=Aa hwf;have HST:=Aa hst;have HB:=Aa hb;have HX:=Aa hx;have HWP:Hid ((Lit.int .i64 ((f p).getD 0+1)).wf=true):=Aa (WalkArith.wf_i64 (by omega));clear d1 hst hwf hfp hM hb hx hf;go_wp2_with (first
    | (at_lookup;refine Qo HM.out rfl rfl rfl rfl HWF.out ?_)
    | (at_mapUpdate;refine QH HM.out (by unfold maxLen;omega) rfl rfl rfl rfl (by first | rfl | rw[hwr];rfl) HWF.out HWP.out ?_;intro w2 hm2 hg2;have HM2:=Aa hm2;have HB2:=Aa (HB.out.grown hg2 HB.out.size (fun k hk=>by cases hk;omega));have HX2:=Aa (hg2.block w.heap.size (by have:=(BO.1 HX.out).1;exact this) (by simp));clear hm2 hg2))
   go_roundg (l.length - (k+1))
   case measure=>omega
   case rel=>exact⟨k+1,m+1,_,_,by omega,by simp,by omega,HST.out,HM2.out,HB2.out,HX2.out.trans HX.out⟩
  ·obtain rfl:k=l.length:=by omega
   have HF:=Aa hf;have HM:=Aa hM;have HB:=Aa hb;have HX:=Aa hx;clear hf hM hb hx;have HNO:Hid ((∀j,j<l.length→∀e∈AR g (l.getD j 0),e.2.2∉l)→CV g l=false):=Aa (fun hall=>by
    unfold CV;refine Cj ?_;rintro⟨e,he,h1,h2⟩;obtain⟨j,hj,hje⟩:=Ey h1;refine hall j hj e (BZ.2 ⟨he,?_⟩) h2;rw[AM,Bf hj];simpa using hje.symm)
   have HYES:Hid (∀j,j<l.length→∀e∈AR g (l.getD j 0),e.2.2∈l→CV g l=true):=Aa (fun j hj e he h2=>by
    unfold CV;obtain⟨h3,h4⟩:=BZ.1 he;exact Ck ⟨e,h3,by rw[h4];exact Ch hj,h2⟩)
   obtain⟨W1,rfl⟩:∃z:World,z=wr:=⟨_,rfl⟩;go_wp2_with fail
   go_loopg [26] l.length (fun fu c wr=>∃k:Nat,k+fu=l.length∧c=.int .i64 k∧(∀j,j<k→∀e∈AR g (l.getD j 0),e.2.2∉l)∧Below W1.heap.size W1 wr)
   case atStart=>exact⟨0,by omega,rfl,fun j hj=>by omega,Ak _ _⟩
   case round=>
    obtain⟨k,hk,rfl,hall,hbr⟩:=hrel;by_cases hlt2:k<l.length
    ·obtain⟨b1,o1,rfl,d1⟩:=HA.out k hlt2;have hbw:=HB.out.trans (hbr.mono HB.out.size);have y1:=Af hbw d1;have z1:(k:Int)<(l.length:Int):=by omega
     have hx2:=Ah hbr HX.out;obtain⟨c0,c1,c2⟩:=DY hx2;have HO:=Aa (OUT.out wr hbw (l.getD k 0));have HBR:=Aa hbr;have HY2:=Aa (HYES.out k hlt2);have HAL:=Aa hall;have HNX:Hid ((∀e∈AR g (l.getD k 0),e.2.2∉l)→∀j,j<k+1→∀e∈AR g (l.getD j 0),e.2.2∉l):=Aa (fun hne j hj=>by
      by_cases e:j=k
      ·rw[e];exact hne
      ·exact HAL.out j (by omega))
     have HWE:=Aa (OWF.out (l.getD k 0));have hol:=OLEN.out (l.getD k 0);clear d1 hx2 hall hbr hbw;generalize AR g (l.getD k 0)=el at*;generalize l.getD k 0=p at*;go_wp2_with (go_at_call 83;refine HO.out.mono ?_;rintro e w3 ⟨rv,rfl,hE,hb3⟩;obtain⟨ea,ec,rfl,hE⟩:=hE;have HED:=Aa hE;have HB3:=Aa (HBR.out.trans (hb3.mono HBR.out.size));clear hb3 hE)
     clear c0 c1 c2 y1;go_loopg [34] el.length (fun fu c wr=>∃r:Nat,r+fu=el.length∧c=.int .i64 r∧(∀j,j<r→(el.getD j (0,0,0)).2.2∉l)∧Below w3.heap.size w3 wr)
     case atStart=>exact⟨0,by omega,rfl,fun j hj=>by omega,Ak _ _⟩
     case round=>
      obtain⟨r,hr,rfl,hall2,hbr2⟩:=hrel;by_cases hlt3:r<el.length
      ·obtain⟨b3,o3,rfl,e1,e2,e3⟩:=HED.out r hlt3;obtain⟨y1,y2,y3⟩:=JN hbr2 e1 e2 e3;have z3:(r:Int)<(el.length:Int):=by omega
       have hin:el.getD r (0,0,0)∈el:=by rw[AM,Bf hlt3];simp
       have HZ:=Aa (HWE.out _ hin);have HC:=Aa (HY2.out _ hin);have HAL2:=Aa hall2;have HNX2:Hid ((el.getD r (0,0,0)).2.2∉l→∀j,j<r+1→(el.getD j (0,0,0)).2.2∉l):=Aa (fun hne j hj=>by
        by_cases e:j=r
        ·rw[e];exact hne
        ·exact HAL2.out j (by omega))
       clear e1 e2 e3 hin hall2;generalize el.getD r (0,0,0)=ed at*;obtain⟨ex,ey,ez⟩:=ed;have hb4:=HB3.out.trans ((hbr2.trans ((Ae wr (.cells #[.int .i64 ex,.int .i64 ey,.int .i64 ez] 54)).mono hbr2.size)).mono HB3.out.size);have HB4:=Aa ((hbr2.trans ((Ae wr (.cells #[.int .i64 ex,.int .i64 ey,.int .i64 ez] 54)).mono hbr2.size)));have HM4:=Aa (Bu.more HM.out hb4);have hpos:=(HF.out ez).2.2;rw[Ez]at hpos;have HPOS:=Aa hpos;have HB5:=Aa (HB.out.trans (hb4.mono HB.out.size));clear hb4 hpos hbr2;by_cases hz:ez∈l
       ·have hz2:=HPOS.out.2 hz;go_wp2_with (at_lookup;refine Qo HM4.out rfl rfl rfl rfl HZ.out ?_)
        go_ret;exact⟨by rw[HC.out hz];rfl,HB5.out⟩
       ·have hz2:¬0<(f ez).getD 0:=fun q=>hz (HPOS.out.1 q);go_wp2_with (at_lookup;refine Qo HM4.out rfl rfl rfl rfl HZ.out ?_)
        go_roundg (el.length - (r+1))
        case measure=>omega
        case rel=>exact⟨r+1,by omega,by simp,HNX2.out hz,HB4.out⟩
      ·obtain rfl:r=el.length:=by omega
       have hne:∀e∈el,e.2.2∉l:=fun e he=>by
        obtain⟨j,hj,rfl⟩:=Ey he;have:=hall2 j hj;rwa [AM,Bf hj]at this
       go_wp2_with fail
       go_roundg (l.length - (k+1))
       case measure=>omega
       case rel=>exact⟨k+1,by omega,by simp,HNX.out hne,HB3.out.trans (hbr2.mono HB3.out.size)⟩
    ·obtain rfl:k=l.length:=by omega
     have HE:=Aa (HNO.out hall);go_wp2_with fail
     go_ret;exact⟨by rw[HE.out];rfl,HB.out.trans (hbr.mono HB.out.size)⟩
end Go.Proofs.YtlhpjfnfemebdaaGreat
