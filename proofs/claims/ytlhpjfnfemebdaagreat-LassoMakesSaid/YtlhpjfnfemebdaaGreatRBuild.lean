/- The reference's Build: its own memory: a graph in a -/
import Derived.Test.YtlhpjfnfemebdaaGreatJBase
import Derived.Test.YtlhpjfnfemebdaaGreatBuild
import Derived.Test.YtlhpjfnfemebdaaGreatEach
import Derived.Deep.RegionLaw
set_option maxRecDepth 100000
set_option maxHeartbeats 64000000
namespace Go.Proofs.YtlhpjfnfemebdaaGreat
open Go.RowKit
def Dn(l:List Int):List Value:=l.map (fun x:Int=>Value.int .i64 x)
theorem Ql{w:World}{base:Nat}{v:Value}{l:List Int}(h:w.ownsRow base 3 1 v l.length (Dn l)):Am w v l:=by
 rcases h.2 with⟨rfl,h0⟩ | ⟨g,cap,cur,rfl,hb,hg,hn,hc,hs,ht⟩
 ·have:l=[]:=List.eq_nil_of_length_eq_zero h0;subst this;exact BM w
 ·refine⟨_,cap,rfl,fun j hj=>⟨g,0,rfl,?_⟩⟩;rw[Nat.zero_add];refine Ab hg j _ ?_;have e:(Dn l)[j]?=some (.int .i64 (l.getD j 0)):=by simp[Dn,List.getD,hj]
  rw[← ht,List.getElem?_take,if_pos (by omega)]at e;simpa using e
structure ME(w wr:World)(vs:Nat→Value)(Ls:Nat→List Int):Prop where
 below:Below w.heap.size w wr
 res:wr.heap[w.heap.size]?=some (.cells #[.slice none 0 0,.slice none 0 0,.slice none 0 0] 32 (0,0))
 lg:wr.heap[w.heap.size+1]?=some (.cells #[vs 0,vs 1,vs 2] 32 (0,0))
 own:∀i,i<3→wr.ownsRow (w.heap.size+2) 3 1 (vs i) (Ls i).length (Dn (Ls i))
 dis:∀i j,i<3→j<3→i≠j→∀k,(vs i).ownBlock=some k→(vs j).ownBlock≠some k
def Bx{α:Type}(f:Nat→α)(i:Nat)(v:α):Nat→α:=fun j=>if j=i then v else f j
theorem AS{α:Type}(f:Nat→α)(i:Nat)(v:α):Bx f i v i=v:=by simp[Bx]
theorem AE{α:Type}(f:Nat→α)(i j:Nat)(v:α)(h:j≠i):Bx f i v j=f j:=by simp[Bx,h]
theorem ME.size{w wr:World}{vs:Nat→Value}{Ls:Nat→List Int}(h:ME w wr vs Ls):w.heap.size+2≤wr.heap.size:=(BO.1 h.lg).1
theorem ME.cell{w wr:World}{vs:Nat→Value}{Ls:Nat→List Int}(h:ME w wr vs Ls):wr.cell? ⟨w.heap.size+1,0,none⟩=some (vs 0)∧wr.cell? ⟨w.heap.size+1,1,none⟩=some (vs 1)∧wr.cell? ⟨w.heap.size+1,2,none⟩=some (vs 2):=
 ⟨Ab h.lg 0 _ rfl,Ab h.lg 1 _ rfl,Ab h.lg 2 _ rfl⟩
theorem ME.len{w wr:World}{vs:Nat→Value}{Ls:Nat→List Int}(h:ME w wr vs Ls){i:Nat}(hi:i<3):∃a cap,vs i=.slice a (Ls i).length cap:=by
 rcases(h.own i hi).2 with⟨e,h0⟩ | ⟨g,cap,cur,e,-⟩
 ·exact⟨none,0,by rw[e,h0]⟩
 ·exact⟨_,cap,e⟩
theorem Vs(w:World):ME w ((w.alloc (.cells #[.slice none 0 0,.slice none 0 0,.slice none 0 0] 32)).alloc (.cells #[.slice none 0 0,.slice none 0 0,.slice none 0 0] 32)) (fun _=>.slice none 0 0) (fun _=>[]):=
 ⟨((Ak _ _).alloc (AQ _) _).alloc (by simp) _,Ah (Ae _ _) (Ar w _),AG _ _ _ (by simp),fun i _=>⟨rfl,.inl ⟨rfl,rfl⟩⟩,fun i j _ _ _ k h=>by simp[Value.ownBlock]at h⟩
theorem ME.step {w wr:World} {vs:Nat→Value} {Ls:Nat→List Int} (h:ME w wr vs Ls) (f:Nat) (hf:f<3) (x:Int) {w2 w4:World} {g cap:Nat} (h2:Below wr.heap.size wr w2)
 (hg:w2.grownBy w4 (vs f).ownBlock) (hor:(vs f).ownBlock=some g∨g=w2.heap.size)
 (hown:w4.ownsRow (w.heap.size+2) 3 1 (.slice (some ⟨g,0,none⟩) ((Ls f).length+1) cap) ((Ls f).length+1) (Dn (Ls f)++[.int .i64 x])):
 w4.cell? ⟨w.heap.size+1,f,none⟩=some (vs f)∧w4.frozen? ⟨w.heap.size+1,f,none⟩=false∧
 ME w (w4.setCell ⟨w.heap.size+1,f,none⟩ (.slice (some ⟨g,0,none⟩) ((Ls f).length+1) cap)) (Bx vs f (.slice (some ⟨g,0,none⟩) ((Ls f).length+1) cap)) (Bx Ls f (Ls f++[x])):=by
 have hsz:=h.size;have hbl:∀i,i<3→∀k,(vs i).ownBlock=some k→w.heap.size+2≤k∧k<wr.heap.size:=fun i hi k hk=>(h.own i hi).lt k hk;have k1:w4.heap[w.heap.size+1]?=some (.cells #[vs 0,vs 1,vs 2] 32 (0,0)):=by
  rw[hg.block _ (by have:=h2.size;omega) (fun e=>by have:=hbl f hf _ e.symm;omega)];exact Ah h2 h.lg
 have k0:w4.heap[w.heap.size]?=some (.cells #[.slice none 0 0,.slice none 0 0,.slice none 0 0] 32 (0,0)):=by
  rw[hg.block _ (by have:=h2.size;omega) (fun e=>by have:=hbl f hf _ e.symm;omega)];exact Ah h2 h.res
 have hvf:(#[vs 0,vs 1,vs 2])[f]?=some (vs f):=by
  rcases f with _ | _ | _ | f <;> first | rfl | omega
 have hgb:w.heap.size+2≤g:=(hown.lt g rfl).1;refine⟨Ab k1 f _ hvf,Ag k1 f,?_,?_,?_,?_,?_⟩
 ·exact((h.below.trans (h2.mono h.below.size)).grown hg (by have:=h2.size;omega) (fun k hk=>by have:=hbl f hf k hk;omega)).setCell (p:=⟨w.heap.size+1,f,none⟩) (by show w.heap.size≤w.heap.size+1;omega) _
 ·rw[Below.heap_setCell _ _ _ _ (by show w.heap.size≠w.heap.size+1;omega)];exact k0
 ·rw[Ac k1]
  congr 1
  rcases f with _ | _ | _ | f
  ·rfl
  ·rfl
  ·rfl
  ·omega
 ·intro i hi;by_cases e:i=f
  ·subst e;rw[AS,AS];have:=Al (F:=fun k=>k=w.heap.size+1) hown ((Bn.refl (fun k=>k=w.heap.size+1) w4).setCell (p:=⟨w.heap.size+1,i,none⟩) (fun _=>rfl) (.slice (some ⟨g,0,none⟩) ((Ls i).length+1) cap)) (fun k hk e=>by simp[Value.ownBlock]at hk;omega);simpa[Dn]using this
  ·rw[AE _ _ _ _ e,AE _ _ _ _ e];refine Al (F:=fun k=>k=w.heap.size+1∨(vs f).ownBlock=some k) (h.own i hi) ?_ ?_
   ·refine Bn.setCell ?_ (p:=⟨w.heap.size+1,f,none⟩) (fun _=>.inl rfl) _;exact(Df h2 _).grown hg (fun k hk _=>.inr hk)
   ·rintro k hk (rfl | e2)
    ·have:=hbl i hi _ hk;omega
    ·exact h.dis i f hi hf e k hk e2
 ·intro i j hi hj hij k hk hk2;have hnew:∀m,m<3→m≠f→∀q,(vs m).ownBlock=some q→q≠g:=by
   intro m hm hmf q hq e;subst e;rcases hor with e2 | e2
   ·exact h.dis m f hm hf hmf q hq e2
   ·have:=hbl m hm q hq;have:=h2.size;omega
  by_cases e:i=f
  ·subst e;rw[AS]at hk;rw[AE _ _ _ _ (Ne.symm hij)]at hk2;simp[Value.ownBlock]at hk;exact hnew j hj (Ne.symm hij) k hk2 hk.symm
  ·by_cases e2:j=f
   ·subst e2;rw[AS]at hk2;rw[AE _ _ _ _ e]at hk;simp[Value.ownBlock]at hk2;exact hnew i hi e k hk hk2.symm
   ·rw[AE _ _ _ _ e]at hk;rw[AE _ _ _ _ e2]at hk2;exact h.dis i j hi hj hij k hk hk2
theorem ME.to{w wr:World}{vs:Nat→Value}{Ls Ls':Nat→List Int}(h:ME w wr vs Ls)(h0:Ls 0=Ls' 0)(h1:Ls 1=Ls' 1)(h2:Ls 2=Ls' 2):ME w wr vs Ls':=by
 refine⟨h.below,h.res,h.lg,?_,h.dis⟩;intro i hi;have e:Ls i=Ls' i:=by rcases i with _ | _ | _ | i <;> first | assumption | omega
 rw[← e];exact h.own i hi
theorem ME.step' {w wr:World} {vs:Nat→Value} {Ls:Nat→List Int} (h:ME w wr vs Ls) (f:Nat) (hf:f<3) (x:Int) (n:Nat) (hn:(Ls f).length=n) {w2 w4:World} {g cap:Nat} (h2:Below wr.heap.size wr w2)
 (hg:w2.grownBy w4 (vs f).ownBlock) (hor:(vs f).ownBlock=some g∨g=w2.heap.size)
 (hown:w4.ownsRow (w.heap.size+2) 3 1 (.slice (some ⟨g,0,none⟩) (n+1) cap) (n+1) (Dn (Ls f)++[.int .i64 x])):
 w4.cell? ⟨w.heap.size+1,f,none⟩=some (vs f)∧w4.frozen? ⟨w.heap.size+1,f,none⟩=false∧
 ∃us,ME w (w4.setCell ⟨w.heap.size+1,f,none⟩ (.slice (some ⟨g,0,none⟩) (n+1) cap)) us (Bx Ls f (Ls f++[x])):=by
 subst hn;obtain⟨a,b,c⟩:=h.step f hf x h2 hg hor hown;exact⟨a,b,_,c⟩
theorem ME.rcell{w wr:World}{vs:Nat→Value}{Ls:Nat→List Int}(h:ME w wr vs Ls)(p:Nat)(hp:p<3):wr.cell? ⟨w.heap.size,p,none⟩=some (.slice none 0 0):=Ab h.res p _ (by rcases p with _ | _ | _ | p <;> first | rfl | omega)
theorem ME.rfree{w wr:World}{vs:Nat→Value}{Ls:Nat→List Int}(h:ME w wr vs Ls)(p:Nat):wr.frozen? ⟨w.heap.size,p,none⟩=false:=Ag h.res p
theorem ME.ret{w wr:World}{vs:Nat→Value}{Ls:Nat→List Int}(h:ME w wr vs Ls)(h0:(Ls 0).length≤1000000)(h1:(Ls 1).length≤1000000)(h2:(Ls 2).length≤1000000)(x y z:Value):
 Below w.heap.size w (((wr.setCell ⟨w.heap.size,0,none⟩ x).setCell ⟨w.heap.size,1,none⟩ y).setCell ⟨w.heap.size,2,none⟩ z)∧
 (((wr.setCell ⟨w.heap.size,0,none⟩ x).setCell ⟨w.heap.size,1,none⟩ y).setCell ⟨w.heap.size,2,none⟩ z).cell? ⟨w.heap.size,0,none⟩=some x∧
 (((wr.setCell ⟨w.heap.size,0,none⟩ x).setCell ⟨w.heap.size,1,none⟩ y).setCell ⟨w.heap.size,2,none⟩ z).cell? ⟨w.heap.size,1,none⟩=some y∧
 (((wr.setCell ⟨w.heap.size,0,none⟩ x).setCell ⟨w.heap.size,1,none⟩ y).setCell ⟨w.heap.size,2,none⟩ z).cell? ⟨w.heap.size,2,none⟩=some z∧
 Ao (((wr.setCell ⟨w.heap.size,0,none⟩ x).setCell ⟨w.heap.size,1,none⟩ y).setCell ⟨w.heap.size,2,none⟩ z) (.agg #[vs 0,vs 1,vs 2]) ⟨Ls 0,Ls 1,Ls 2⟩:=by
 have e1:=Ac h.res 0 x;have e2:=Ac e1 1 y;have e3:=Ac e2 2 z;have hf:Bn (fun k=>k=w.heap.size) wr (((wr.setCell ⟨w.heap.size,0,none⟩ x).setCell ⟨w.heap.size,1,none⟩ y).setCell ⟨w.heap.size,2,none⟩ z):=
  (((Bn.refl (fun k=>k=w.heap.size) wr).setCell (p:=⟨w.heap.size,0,none⟩) (fun _=>rfl) x).setCell (p:=⟨w.heap.size,1,none⟩) (fun _=>rfl) y).setCell (p:=⟨w.heap.size,2,none⟩) (fun _=>rfl) z
 have ho:∀i,i<3→Am (((wr.setCell ⟨w.heap.size,0,none⟩ x).setCell ⟨w.heap.size,1,none⟩ y).setCell ⟨w.heap.size,2,none⟩ z) (vs i) (Ls i):=fun i hi=>
  Ql (base:=w.heap.size+2) (Al (h.own i hi) hf (fun k hk e=>by have:=((h.own i hi).lt k hk).1;omega))
 refine⟨((h.below.setCell (p:=⟨w.heap.size,0,none⟩) (AQ _) _).setCell (p:=⟨w.heap.size,1,none⟩) (AQ _) _).setCell (p:=⟨w.heap.size,2,none⟩) (AQ _) _,Ab e3 0 _ rfl,Ab e3 1 _ rfl,Ab e3 2 _ rfl,
  ⟨⟨_,_,_,rfl,ho 0 (by omega),ho 1 (by omega),ho 2 (by omega)⟩,h0,h1,h2⟩⟩
def rS(l:List Ed)(m:Nat):List Int:=BV (m+1) (fun i=>(Bl l i:Int))
def rX(l:List Ed)(p:Ed→Int)(m r:Nat):List Int:=Gn m l p++(De (l.take r) m).map p
theorem ML(l:List Ed)(p:Ed→Int)(m:Nat):rX l p m 0=Gn m l p:=by simp[rX,De]
theorem Ug(l:List Ed)(p:Ed→Int)(m:Nat):rX l p m l.length=Gn (m+1) l p:=by rw[rX,Ez,Jp]
theorem XH{l:List Ed}{p:Ed→Int}{m r:Nat}(hr:r<l.length)(h:(l.getD r (0,0,0)).1=(m:Int)):rX l p m (r+1)=rX l p m r++[p (l.getD r (0,0,0))]:=by
 have e:l.getD r (0,0,0)=l[r]:=by simp[List.getD,hr]
 rw[e]at h ⊢;unfold rX De;rw[List.take_add_one,Bf hr,Option.toList_some,List.filter_append,Ec,← List.append_assoc];simp[h]
theorem UN{l:List Ed}{p:Ed→Int}{m r:Nat}(hr:r<l.length)(h:¬(l.getD r (0,0,0)).1=(m:Int)):rX l p m (r+1)=rX l p m r:=by
 have e:l.getD r (0,0,0)=l[r]:=by simp[List.getD,hr]
 rw[e]at h;unfold rX De;rw[List.take_add_one,Bf hr,Option.toList_some,List.filter_append];simp[h]
theorem Qt(l:List Ed)(p:Ed→Int)(m r:Nat)(h0:∀e∈l,0≤e.1):(rX l p m r).length≤l.length:=by
 unfold rX;rw[Bs,Gb h0,Fi];have h1:(De (l.take r) m).length≤Fv l m:=LM l r m;have h2:=Cv l m;have h3:=Ob l (m+1);omega
def rL(l:List Ed)(m r:Nat):Nat→List Int:=fun i=>if i=0 then rS l m else if i=1 then rX l (fun e=>e.2.1) m r else rX l (fun e=>e.2.2) m r
theorem bL(l:List Ed)(m:Nat):rS l (m+1)=rS l m++[(Bl l (m+1):Int)]:=by
 unfold rS BV;rw[List.range_succ,Ec];rfl
theorem QE(n:Int)(v:Value)(w:World)(h:¬(0≤n∧n≤100000)):
 Calls Tryz.prog 14 #[.int .i64 n,v] w (Ff w ⟨[],[],[]⟩ 1):=by
 by_cases h0:n<0
 ·go_enter Tryz.func14,Tryz.ntmps14;go_wp2_with fail
  refine Bd (v:=.tuple #[.agg #[.slice none 0 0,.slice none 0 0,.slice none 0 0],.int .i64 1]) (by simp[results,Tryz.results14,go_sem]) rfl ?_;exact⟨_,rfl,DB _,Ae w _⟩
 ·go_enter Tryz.func14,Tryz.ntmps14;go_wp2_with fail
  refine Bd (v:=.tuple #[.agg #[.slice none 0 0,.slice none 0 0,.slice none 0 0],.int .i64 1]) (by simp[results,Tryz.results14,go_sem]) rfl ?_;exact⟨_,rfl,DB _,Ae w _⟩
theorem Wg(n:Nat)(v:Value)(l:List Ed)(w:World)(hn:n≤100000)(h:Ax w v l)(hl:l.length≤1000000):
 Calls Tryz.prog 14 #[.int .i64 (n:Nat),v] w (Ff w (Ai n l) (DF n l)):=by
 obtain⟨a,ac,rfl,ha⟩:=h;obtain⟨i0,hi0,hz0,hz1,hz2⟩:=CE Tryz.info3;have HA:=Aa ha;clear ha;go_enter Tryz.func14,Tryz.ntmps14;go_wp2_with fail
 go_loopg [6] l.length (fun fu c wr=>∃k:Nat,k+fu=l.length∧c=.int .i64 k∧(∀j,j<k→Mg n (l.getD j (0,0,0))=true)∧w.alloc (.cells #[.slice none 0 0,.slice none 0 0,.slice none 0 0] 32)=wr)
 case atStart=>exact⟨0,by omega,rfl,fun j hj=>by omega,rfl⟩
 case round=>
  obtain⟨k,hk,rfl,hall,rfl⟩:=hrel;have HH:=Aa hall;clear hall;by_cases hlt:k<l.length
  ·obtain⟨b,off,rfl,d1,d2,d3⟩:=HA.out k hlt;obtain⟨y1,y2,y3⟩:=JN (Ae w (.cells #[.slice none 0 0,.slice none 0 0,.slice none 0 0] 32)) d1 d2 d3;clear d1 d2 d3;have H1:=Aa (fun hno=>LI (n:=n) hlt hno);have hok1:Mg n (l.getD k (0,0,0))=true→∀j,j<k+1→Mg n (l.getD j (0,0,0))=true:=fun hy j hj=>by
    by_cases hjk:j=k
    ·rw[hjk];exact hy
    ·exact HH.out j (by omega)
   have H2:=Aa hok1;clear hok1;generalize l.getD k (0,0,0)=e at*;obtain⟨ef,ea,et⟩:=e;have HB:=Aa (Ae w (.cells #[.slice none 0 0,.slice none 0 0,.slice none 0 0] 32));by_cases t1:ef<0
   ·have E1:=Aa (H1.out (fun hy=>by simp[Mg]at hy;omega));go_wp2_with fail
    refine Bd (v:=.tuple #[.agg #[.slice none 0 0,.slice none 0 0,.slice none 0 0],.int .i64 1]) (by simp[results,Tryz.results14,go_sem]) rfl ?_;exact Ce E1.out HB.out
   by_cases t2:ef≥n
   ·have E1:=Aa (H1.out (fun hy=>by simp[Mg]at hy;omega));go_wp2_with fail
    refine Bd (v:=.tuple #[.agg #[.slice none 0 0,.slice none 0 0,.slice none 0 0],.int .i64 1]) (by simp[results,Tryz.results14,go_sem]) rfl ?_;exact Ce E1.out HB.out
   by_cases t3:et<0
   ·have E1:=Aa (H1.out (fun hy=>by simp[Mg]at hy;omega));go_wp2_with fail
    refine Bd (v:=.tuple #[.agg #[.slice none 0 0,.slice none 0 0,.slice none 0 0],.int .i64 1]) (by simp[results,Tryz.results14,go_sem]) rfl ?_;exact Ce E1.out HB.out
   by_cases t4:et≥n
   ·have E1:=Aa (H1.out (fun hy=>by simp[Mg]at hy;omega));go_wp2_with fail
    refine Bd (v:=.tuple #[.agg #[.slice none 0 0,.slice none 0 0,.slice none 0 0],.int .i64 1]) (by simp[results,Tryz.results14,go_sem]) rfl ?_;exact Ce E1.out HB.out
   by_cases t5:ea<0
   ·have E1:=Aa (H1.out (fun hy=>by simp[Mg]at hy;omega));go_wp2_with fail
    refine Bd (v:=.tuple #[.agg #[.slice none 0 0,.slice none 0 0,.slice none 0 0],.int .i64 1]) (by simp[results,Tryz.results14,go_sem]) rfl ?_;exact Ce E1.out HB.out
   ·have E2:=Aa (H2.out (by simp[Mg];omega));go_wp2_with fail
    go_roundg (gk - 1)
    case measure=>omega
    case rel=>exact⟨k+1,by omega,rfl,E2.out,rfl⟩
  ·obtain rfl:gk=0:=by omega
   obtain rfl:k=l.length:=by omega
   have hbo:=Kd hn HH.out;clear HH;obtain⟨-,hm⟩:=Ej hbo;have h0:∀e∈l,0≤e.1:=fun e he=>(hm e he).1;have H0:=Aa h0;have HBO:=Aa hbo;have HR0:=Aa (Vs w);have HS0:=Aa (show [(0:Int)]=rS l 0 by simp[rS,BV,EQ h0]);clear hbo hm h0;go_wp2_with (at_builtin;refine wpList_append_lies (((w.alloc (.cells #[.slice none 0 0,.slice none 0 0,.slice none 0 0] 32)).alloc (.cells #[.slice none 0 0,.slice none 0 0,.slice none 0 0] 32)).alloc (.cells #[.int .i64 0] 3)) rfl (.tmp 66) (.tmp 67) 22 rfl (w.heap.size+2) 3 i0 (.int .i64 0) 1 8 Tryz.underlying22 hi0 hz0 hz1 hz2 rfl (by decide) (.slice none 0 0) 0 [] rfl ⟨rfl,.inl ⟨rfl,rfl⟩⟩ ⟨w.heap.size+1+1,0,none⟩ 1 1 [.int .i64 0] rfl rfl (World.news_of_block (AG _ _ _ (by simp))) (by simp[Value.oneCell']) (by omega) (by unfold maxLen;omega) (by omega) (by simp) (w.heap.size+1+1+1) (by simp) ?_;intro g cap w4 hown hgr hor hlt4;obtain⟨q0,q1,us,q2⟩:=HR0.out.step' 0 (by omega) 0 0 rfl (Ae _ _) hgr (by simpa using hor) hown;have Q2:=Aa q2;clear q2 hgr hown hor)
   clear q0 q1 hlt hlt4;go_loopg [8] n (fun fu c wr=>∃m:Nat,m+fu=n∧c=.int .i64 m∧∃vs,ME w wr vs (rL l m 0))
   case atStart=>exact⟨0,by omega,rfl,us,Q2.out.to HS0.out rfl rfl⟩
   case round=>
    clear Q2;obtain⟨m,hm,rfl,vs,hR⟩:=hrel;by_cases hlt:m<n
    ·have HR:=Aa hR;clear hR;go_wp2_with fail
     obtain⟨wr1,rfl⟩:∃z:World,z=wr:=⟨_,rfl⟩;obtain⟨gk',rfl⟩:∃z:Nat,z=gk:=⟨_,rfl⟩;go_loopg [9] l.length (fun fu c wr=>∃r:Nat,r+fu=l.length∧c=.int .i64 r∧∃vs,ME w wr vs (rL l m r))
     case atStart=>exact⟨0,by omega,rfl,vs,HR.out⟩
     case round=>
      clear HR vs;obtain⟨r,hr,rfl,vs,hR⟩:=hrel;by_cases hlt2:r<l.length
      ·obtain⟨b,off,rfl,d1,d2,d3⟩:=HA.out r hlt2;have y1:=Af hR.below d1;have y2:=Af hR.below d2;have hhit:=Aa (fun(h:(l.getD r (0,0,0)).1=(m:Int))=>And.intro (XH (p:=fun e=>e.2.1) hlt2 h) (XH (p:=fun e=>e.2.2) hlt2 h));have hmiss:=Aa (fun(h:¬(l.getD r (0,0,0)).1=(m:Int))=>And.intro (UN (p:=fun e=>e.2.1) hlt2 h) (UN (p:=fun e=>e.2.2) hlt2 h));have D3:=Aa d3;clear d1 d2 d3;generalize l.getD r (0,0,0)=e at*;obtain⟨ef,ea,et⟩:=e;by_cases t1:ef=(m:Int)
       ·subst t1;obtain⟨X1,X2⟩:=hhit.out rfl;have X1:=Aa X1;have X2:=Aa X2;have hl1:=Qt l (fun e=>e.2.1) m r H0.out;have hl2:=Qt l (fun e=>e.2.2) m r H0.out;obtain⟨n1,hn1⟩:∃z,(rL l m r 1).length=z:=⟨_,rfl⟩;obtain⟨n2,hn2⟩:∃z,(rL l m r 2).length=z:=⟨_,rfl⟩;have hn1':n1≤l.length:=by rw[← hn1];exact hl1
        have hn2':n2≤l.length:=by rw[← hn2];exact hl2
        have N1:=Aa hn1;have N2:=Aa hn2;obtain⟨c0,c1,c2⟩:=hR.cell;have HR:=Aa hR;have hsz:=hR.size;have M1:Hid (n1+1≤maxLen):=Aa (by unfold maxLen;omega);have M2:Hid ((n1+1)*8≤140737488355328):=Aa (by omega);have M3:Hid (n2+1≤maxLen):=Aa (by unfold maxLen;omega);have M4:Hid ((n2+1)*8≤140737488355328):=Aa (by omega);have b1:(r:Int)<(l.length:Int):=by omega
        have z1:=Af (Ae wr (.cells #[.int .i64 ea] 3)) c1;have z2:=Af (Ae wr (.cells #[.int .i64 ea] 3)) y2;clear hR hl1 hl2 hn1 hn2 hhit hmiss;go_wp2_with fail
        go_region_law (refine step_append_lies ((wr.alloc (.cells #[.int .i64 ea] 3)).drew) rfl (.tmp 89) (.tmp 95) 22 rfl (w.heap.size+2) 3 i0 (.int .i64 0) 1 8 Tryz.underlying22 hi0 hz0 hz1 hz2 rfl (by decide) (vs 1) n1 (Dn (rL l m r 1)) (by simp[Act.eval]) (N1.out▸(HR.out.own 1 (by omega)).alloc _) ⟨wr.heap.size,0,none⟩ 1 1 [.int .i64 ea] (by simp[Act.eval]) rfl (World.news_of_block (Ar wr _)) (by simp[Value.oneCell']) Nat.one_pos M1.out M2.out (by simp;omega) (wr.heap.size+1) (by simp) ?_;intro g2 cap2 w4 hown2 hgr2 hor2 hlt4;obtain⟨q0,q1,us,q2⟩:=HR.out.step' 1 (by omega) ea n1 N1.out (Ae wr (.cells #[.int .i64 ea] 3)).drew hgr2 (by simpa using hor2) hown2;have y4:=Af q2.below D3.out;obtain⟨p0,p1,p2⟩:=q2.cell;have Q2:=Aa q2;clear q2 hgr2 hown2 hor2)
        all_goals go_wp2_with fail
        all_goals generalize World.setCell w4 _ _=w5 at*
        all_goals
         have z3:=Af (Ae w5 (.cells #[.int .i64 et] 3)) p2;have z4:=Af (Ae w5 (.cells #[.int .i64 et] 3)) y4;have hsz5:=Q2.out.size;have HO2:Hid (w5.ownsRow (w.heap.size+2) 3 1 (us 2) n2 (Dn (rL l m r 2))):=Aa (N2.out▸(Q2.out.own 2 (by omega)));clear y1 y2 c0 c1 c2 z1 z2 q0 q1 hsz
         go_region_law (refine step_append_lies ((w5.alloc (.cells #[.int .i64 et] 3)).drew) rfl (.tmp 99) (.tmp 105) 22 rfl (w.heap.size+2) 3 i0 (.int .i64 0) 1 8 Tryz.underlying22 hi0 hz0 hz1 hz2 rfl (by decide) (us 2) n2 (Dn (rL l m r 2)) (by simp[Act.eval]) (HO2.out.alloc _) ⟨w5.heap.size,0,none⟩ 1 1 [.int .i64 et] (by simp[Act.eval]) rfl (World.news_of_block (Ar w5 _)) (by simp[Value.oneCell']) Nat.one_pos M3.out M4.out (by simp;omega) (w5.heap.size+1) (by simp) ?_;intro g3 cap3 w6 hown3 hgr3 hor3 hlt5;obtain⟨r0,r1,xs,q3⟩:=Q2.out.step' 2 (by omega) et n2 N2.out (Ae w5 (.cells #[.int .i64 et] 3)).drew hgr3 (by simpa using hor3) hown3;have Q3:=Aa q3;clear q3 hgr3 hown3 hor3)
        all_goals go_wp2_with fail
        all_goals go_roundg (gk - 1)
        all_goals first
         | omega
         | exact⟨r+1,by omega,by simp,_,Q3.out.to rfl X1.out.symm X2.out.symm⟩
       ·have HM:=Aa (hmiss.out t1);have HR:=Aa hR;have b1:(r:Int)<(l.length:Int):=by omega
        clear hR hhit hmiss;go_wp2_with fail
        go_roundg (gk - 1)
        case measure=>omega
        case rel=>exact⟨r+1,by omega,by simp,_,HR.out.to rfl HM.out.1.symm HM.out.2.symm⟩
      ·obtain rfl:gk=0:=by omega
       obtain rfl:r=l.length:=by omega
       obtain⟨c0,c1,c2⟩:=hR.cell;obtain⟨a2,cap2,e2⟩:=hR.len (i:=2) (by omega);have hq:(rL l m l.length 2).length=Bl l (m+1):=by show(rX l _ m l.length).length=_;rw[Ug,Gb H0.out]
       have hq0:(rL l m l.length 0).length=m+1:=AJ _ _;have hqq:=Ob l (m+1);rw[e2,hq]at c2;obtain⟨q,hqe⟩:∃q,Bl l (m+1)=q:=⟨_,rfl⟩;rw[hqe]at c2 hqq;have HQ:=Aa hqe;have HQ0:=Aa hq0;have HR:=Aa hR;have hsz:=hR.size;have z2:=Af (Ae wr (.cells #[.int .i64 q] 3)) c2;have HO:Hid (wr.ownsRow (w.heap.size+2) 3 1 (vs 0) (m+1) (Dn (rL l m l.length 0))):=Aa (hq0▸(hR.own 0 (by omega)));clear hR e2 hq hq0 hqe;go_wp2_with (at_builtin;refine wpList_append_lies (wr.alloc (.cells #[.int .i64 q] 3)) rfl (.tmp 109) (.tmp 113) 22 rfl (w.heap.size+2) 3 i0 (.int .i64 0) 1 8 Tryz.underlying22 hi0 hz0 hz1 hz2 rfl (by decide) (vs 0) (m+1) (Dn (rL l m l.length 0)) rfl (HO.out.alloc _) ⟨wr.heap.size,0,none⟩ 1 1 [.int .i64 q] rfl rfl (World.news_of_block (Ar wr _)) (by simp[Value.oneCell']) (by omega) (by unfold maxLen;omega) (by omega) (by simp;omega) (wr.heap.size+1) (by simp) ?_;intro g3 cap3 w6 hown3 hgr3 hor3 hlt5;obtain⟨r0,r1,xs,q3⟩:=HR.out.step' 0 (by omega) q (m+1) HQ0.out (Ae wr (.cells #[.int .i64 q] 3)) hgr3 (by simpa using hor3) hown3;have Q3:=Aa q3;clear q3 hgr3 hown3 hor3)
       go_roundg (gk' - 1)
       case measure=>omega
       case rel=>exact⟨m+1,by omega,by simp,_,Q3.out.to (by rw[← HQ.out];exact(bL l m).symm) ((Ug l _ m).trans (ML l _ (m+1)).symm) ((Ug l _ m).trans (ML l _ (m+1)).symm)⟩
    ·obtain rfl:gk=0:=by omega
     obtain rfl:m=n:=by omega
     obtain⟨c0,c1,c2⟩:=hR.cell;have r0:=hR.rcell 0 (by omega);have r1:=hR.rcell 1 (by omega);have r2:=hR.rcell 2 (by omega);have g0:=hR.rfree 0;have g1:=hR.rfree 1;have g2:=hR.rfree 2;have hret:=hR.ret (by show(rS l m).length≤_;unfold rS;rw[AJ];omega) (CP (Qt l _ m 0 H0.out) hl) (CP (Qt l _ m 0 H0.out) hl) (vs 0) (vs 1) (vs 2);have e:(⟨rL l m 0 0,rL l m 0 1,rL l m 0 2⟩:Gr)=Iq m l:=by
      show(⟨rS l m,rX l _ m 0,rX l _ m 0⟩:Gr)=_;rw[ML,ML];rfl
     rw[e]at hret;obtain⟨a0,k0,e0⟩:=hR.len (i:=0) (by omega);obtain⟨a1,k1,e1⟩:=hR.len (i:=1) (by omega);obtain⟨a2,k2,e2⟩:=hR.len (i:=2) (by omega);rw[e0,e1,e2]at hret;rw[e0]at c0;rw[e1]at c1;rw[e2]at c2;clear e0 e1 e2;generalize (rL l m 0 0).length=n0 at*;generalize (rL l m 0 1).length=n1 at*;generalize (rL l m 0 2).length=n2 at*;have HT:=Aa hret;clear hret hR e;go_wp2_with fail
     obtain⟨q1,q2,q3,q4,q5⟩:=HT.out;refine Bd (v:=.tuple #[.agg #[.slice a0 n0 k0,.slice a1 n1 k1,.slice a2 n2 k2],.int .i64 0]) (by simp[results,Tryz.results14,go_sem,q2,q3,q4]) rfl ?_;exact JC HBO.out q1 q5
theorem Vq(n:Int)(v:Value)(l:List Ed)(w:World)(h:Ax w v l)(hl:l.length≤1000000):Calls Tryz.prog 120 #[.int .i64 n,v] w (Ff w (Ai n l) (DF n l)):=by
 by_cases hn:0≤n∧n≤100000
 ·obtain⟨k,rfl⟩:∃k:Nat,n=(k:Int):=⟨n.toNat,by omega⟩;exact XT k v l w (by omega) h hl
 ·have hb:AY n l=false:=by
   cases e:AY n l
   ·rfl
   ·simp only[AY,Ci,decide_eq_true_eq]at e;exact(hn e.1).elim
  rw[Ia hb,show DF n l=1 by simp[DF,hb]];exact Rp n v w hn
theorem JT(n:Int)(v:Value)(l:List Ed)(w:World)(h:Ax w v l)(hl:l.length≤1000000):Calls Tryz.prog 14 #[.int .i64 n,v] w (Ff w (Ai n l) (DF n l)):=by
 by_cases hn:0≤n∧n≤100000
 ·obtain⟨k,rfl⟩:∃k:Nat,n=(k:Int):=⟨n.toNat,by omega⟩;exact Wg k v l w (by omega) h hl
 ·have hb:AY n l=false:=by
   cases e:AY n l
   ·rfl
   ·simp only[AY,Ci,decide_eq_true_eq]at e;exact(hn e.1).elim
  rw[Ia hb,show DF n l=1 by simp[DF,hb]];exact QE n v w hn
end Go.Proofs.YtlhpjfnfemebdaaGreat
