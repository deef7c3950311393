/- Which nodes can be reached: no program in sight. Visiting: -/
import Derived.Test.YtlhpjfnfemebdaaGreatJBase
import Derived.Test.YtlhpjfnfemebdaaGreatRBuild
import Derived.Test.YtlhpjfnfemebdaaGreatOut
import Derived.Deep.RegionLaw
import Derived.Deep.DeepCutAuto
import Derived.ScopeJumps
import Derived.StillTactics
set_option maxRecDepth 100000
set_option maxHeartbeats 64000000
namespace Go.Proofs.YtlhpjfnfemebdaaGreat
open Go.RowKit
inductive Vd (E:List Ed) (s:Int→Prop):Int→Prop
 | base {i:Int}:s i→Vd E s i
 | step {e:Ed}:Vd E s e.1→e∈E→Vd E s e.2.2
def Src(n:Nat)(fr:List Int)(i:Int):Prop:=i∈fr∧0≤i∧i<(n:Int)
open Classical in
noncomputable def Cq(g:Gr)(fr:List Int):List Bool:=if Bj g=true then BV (Ad g) (fun i=>decide (Vd (Av g) (Src (Ad g) fr) (i:Int))) else []
theorem Ig{g:Gr}(h:Rt g)(fr:List Int):(Cq g fr).length=Ad g:=by unfold Cq;rw[if_pos ((Aq g).2 h),AJ]
open Classical in
theorem MY{g:Gr}(h:Rt g)(fr:List Int){i:Nat}(hi:i<Ad g):(Cq g fr).getD i false=true↔Vd (Av g) (Src (Ad g) fr) (i:Int):=by
 unfold Cq;rw[if_pos ((Aq g).2 h),BW _ _ _ _ hi,decide_eq_true_eq]
theorem WX {g:Gr} (h:Rt g) (fr:List Int) (out:List Bool) (hl:out.length=Ad g)
 (hs:∀i,i<Ad g→out.getD i false=true→Vd (Av g) (Src (Ad g) fr) (i:Int))
 (hb:∀i:Nat,i<Ad g→(i:Int)∈fr→out.getD i false=true)
 (hc:∀e∈Av g,out.getD e.1.toNat false=true→out.getD e.2.2.toNat false=true):out=Cq g fr:=by
 have key:∀i:Int,Vd (Av g) (Src (Ad g) fr) i→out.getD i.toNat false=true:=by
  intro i hi
  induction hi with
  | base h'=>
   obtain⟨h1,h2,h3⟩:=h';rename_i i;obtain⟨k,rfl⟩:∃k:Nat,i=(k:Int):=⟨i.toNat,by omega⟩;exact hb k (by omega) h1
  | step _ h' ih=>exact hc _ h' ih
 apply List.ext_getElem?;intro i;by_cases hi:i<Ad g
 ·have h1:i<out.length:=by omega
  have h2:i<(Cq g fr).length:=by rw[Ig h];exact hi
  rw[Bf h1,Bf h2];have e1:out.getD i false=out[i]:=by simp[List.getD,h1]
  have e2:(Cq g fr).getD i false=(Cq g fr)[i]:=by simp[List.getD,h2]
  congr 1
  rw[Bool.eq_iff_iff,← e1,← e2,MY h fr hi];exact⟨hs i hi,fun hr=>key _ hr⟩
 ·rw[List.getElem?_eq_none (by omega),List.getElem?_eq_none (by rw[Ig h];omega)]
def bools(xs:List Bool):Array Value:=(xs.map (fun x:Bool=>Value.bool x)).toArray
theorem Co(xs:List Bool)(p:Nat)(hp:p<xs.length):(bools xs)[p]?=some (.bool (xs.getD p false)):=by
 simp[bools,List.getD,hp]
theorem EW(xs:List Bool)(p:Nat)(v:Bool):(bools xs).setIfInBounds p (.bool v)=bools (xs.set p v):=by
 unfold bools;simp[List.map_set]
theorem BJ(n:Nat):bools (List.replicate n false)=(List.replicate n (Value.bool false)).toArray:=by
 unfold bools;rw[List.map_replicate]
theorem CH{w:World}{b n:Nat}{xs:List Bool}(h:w.heap[b]?=some (.cells (bools xs) 4 (0,0)))(hn:n=xs.length)(cap:Nat):Bc w (.slice (some ⟨b,0,none⟩) n cap) xs:=by
 subst hn;exact⟨_,cap,rfl,fun j hj=>⟨b,0,rfl,Ab h _ _ (by rw[Nat.zero_add];exact Co xs j hj)⟩⟩
theorem GW{α:Type}(l:List α)(p q:Nat)(v z:α)(hp:p<l.length):(l.set p v).getD q z=if q=p then v else l.getD q z:=by
 by_cases h:q=p
 ·subst h;rw[if_pos rfl,JM _ _ _ _ hp]
 ·rw[if_neg h,Iv _ _ _ _ _ (fun e=>h e.symm)]
def Fr(out:List Bool):Nat:=out.countP (fun b=>!b)
theorem NI:∀(out:List Bool) (p:Nat),p<out.length→out.getD p false=false→Fr (out.set p true)+1=Fr out
 | [],p,hp,_=>by simp at hp
 | b::out,0,_,h=>by
  have:b=false:=by simpa using h
  subst this;simp[Fr]
 | b::out,p+1,hp,h=>by
  have:=NI out p (by simpa using hp) (by simpa using h);simp only[Fr,List.set_cons_succ,List.countP_cons]at this ⊢;omega
theorem Tryz.info4:(Tryz.prog.info? 4).map (fun i=>(i.zero,i.size,i.bytes))=some (some (.bool false),1,1):=by kernel_rfl
def Vp(w:World)(l:List Bool)(e:Ending)(w':World):Prop:=∃v,e=.returned v∧Bc w' v l∧Below w.heap.size w w'
inductive Io (E:Nat→Nat→Prop):Nat→Nat→Prop
 | refl (i:Nat):Io E i i
 | step {i j k:Nat}:Io E i j→E j k→Io E i k
theorem Io.trans{E:Nat→Nat→Prop}{i j k:Nat}(h:Io E i j)(h2:Io E j k):Io E i k:=by
 induction h2 with
 | refl=>exact h
 | step _ e ih=>exact .step ih e
theorem Io.one{E:Nat→Nat→Prop}{i j:Nat}(h:E i j):Io E i j:=.step (.refl i) h
structure TG where
 n:Nat
 S:Nat→Nat
 T:Nat→Nat
 hT:∀x k,x<n→S x≤k→k<S (x+1)→T k<n
 hS:∀x,x<n→S x≤S (x+1)
def TG.E(G:TG)(x y:Nat):Prop:=x<G.n∧∃k,G.S x≤k∧k<G.S (x+1)∧G.T k=y
structure TS where
 num:Nat→Int
 low:Nat→Int
 on:Nat→Bool
 nodes:List Nat
 part:Nat→Int
 parts:Nat
 calls:List (Nat×Nat)
 seen:Nat
def Kk(G:TG)(s:TS)(x k:Nat):Prop:=G.S x≤k∧k<G.S (x+1)∧∀c∈s.calls,c.1=x→k<c.2
structure Gm(G:TG)(s:TS):Prop where
 numLt:∀x,s.num x=-1∨(0≤s.num x∧s.num x<s.seen∧x<G.n)
 numInj:∀x y,0≤s.num x→s.num x=s.num y→x=y
 onNodes:∀x,s.on x=true↔x∈s.nodes
 sorted:s.nodes.Pairwise (fun a b=>s.num b<s.num a)
 onSeen:∀x,s.on x=true→0≤s.num x
 callsOn:∀c∈s.calls,s.on c.1=true
 csorted:s.calls.Pairwise (fun a b=>s.num b.1<s.num a.1)
 next:∀c∈s.calls,G.S c.1≤c.2∧c.2≤G.S (c.1+1)
 chain:∀c∈s.calls,∀x,s.on x=true→s.num c.1≤s.num x→Io G.E c.1 x
 shut:∀x y,0≤s.num x→s.on x=false→G.E x y→0≤s.num y∧s.on y=false
 proc:∀x k,s.on x=true→Kk G s x k→0≤s.num (G.T k)
 lowLe:∀x,s.on x=true→s.low x≤s.num x
 lowIs:∀x,s.on x=true→∃y,s.on y=true∧s.num y=s.low x∧Io G.E x y
 lowLt:∀x,s.on x=true→(∀c∈s.calls,c.1≠x)→s.low x<s.num x
 lowAll:∀c∈s.calls,∀x,s.on x=true→s.num c.1≤s.num x→(∀c'∈s.calls,s.num c'.1≤s.num x→s.num c'.1≤s.num c.1)→∀k,Kk G s x k→s.on (G.T k)=true→s.low c.1≤s.num (G.T k)
 bottom:∀x,s.on x=true→∃c∈s.calls,s.num c.1≤s.num x
 partLt:∀x,0≤s.num x→s.on x=false→0≤s.part x∧s.part x<s.parts
 partEq:∀x y,0≤s.num x→s.on x=false→0≤s.num y→s.on y=false→(s.part x=s.part y↔Io G.E x y∧Io G.E y x)
def ON(G:TG)(s:TS)(x:Nat):TS:=
 {s with num:=Bx s.num x s.seen,low:=Bx s.low x s.seen,on:=Bx s.on x true,nodes:=x::s.nodes,calls:=(x,G.S x)::s.calls,seen:=s.seen+1}
theorem Gm.seenOf{G:TG}{s:TS}(h:Gm G s){x:Nat}(hx:0≤s.num x):s.num x<s.seen∧x<G.n:=by
 rcases h.numLt x with e | ⟨_,a,b⟩
 ·omega
 ·exact⟨a,b⟩
theorem Gm.see {G:TG} {s:TS} (h:Gm G s) {x:Nat} (hx:s.num x=-1) (hn:x<G.n)
 (hp:∀c∈s.calls,Io G.E c.1 x):Gm G (ON G s x):=by
 have hon:s.on x=false:=by
  cases e:s.on x
  ·rfl
  ·have:=h.onSeen x e;omega
 have hne:∀y,0≤s.num y→y≠x:=fun y hy e=>by subst e;omega
 have hon2:∀y,s.on y=true→y≠x:=fun y hy=>hne y (h.onSeen y hy);have n1:Bx s.num x (s.seen:Int) x=s.seen:=AS _ _ _;have n2:∀y,y≠x→Bx s.num x (s.seen:Int) y=s.num y:=fun y hy=>AE _ _ _ _ hy;have l2:∀y,y≠x→Bx s.low x (s.seen:Int) y=s.low y:=fun y hy=>AE _ _ _ _ hy;have l1:Bx s.low x (s.seen:Int) x=s.seen:=AS _ _ _;have o1:Bx s.on x true x=true:=AS _ _ _;have o2:∀y,y≠x→Bx s.on x true y=s.on y:=fun y hy=>AE _ _ _ _ hy;have hcx:∀c∈s.calls,c.1≠x:=fun c hc=>hon2 _ (h.callsOn c hc);have hpr:∀y k,y≠x→Kk G (ON G s x) y k→Kk G s y k:=fun y k hy ⟨a,b,c⟩=>⟨a,b,fun d hd e=>c d (List.mem_cons_of_mem _ hd) e⟩;have hpx:∀k,¬Kk G (ON G s x) x k:=fun k ⟨a,_,c⟩=>by
  have:=c (x,G.S x) (List.mem_cons_self ..) rfl;simp only at this;omega
 have hlt:∀y,s.on y=true→s.num y<s.seen:=fun y hy=>(h.seenOf (h.onSeen y hy)).1;refine⟨?_,?_,?_,?_,?_,?_,?_,?_,?_,?_,?_,?_,?_,?_,?_,?_,?_,?_⟩
 ·intro y;show Bx s.num x _ y=-1∨(0≤Bx s.num x _ y∧Bx s.num x _ y<((s.seen+1:Nat):Int)∧y<G.n);by_cases e:y=x
  ·subst e;rw[n1];right;exact⟨by omega,by omega,hn⟩
  ·rw[n2 y e];rcases h.numLt y with q | ⟨a,b,c⟩
   ·exact .inl q
   ·exact .inr ⟨a,by omega,c⟩
 ·intro y z;show 0≤Bx s.num x _ y→Bx s.num x _ y=Bx s.num x _ z→y=z;by_cases ey:y=x
  ·by_cases ez:z=x
   ·intro _ _;rw[ey,ez]
   ·rw[ey,n1,n2 z ez];intro _ e;rcases h.numLt z with q | ⟨a,b,c⟩ <;> omega
  ·by_cases ez:z=x
   ·rw[ez,n1,n2 y ey];intro h0 e;rcases h.numLt y with q | ⟨a,b,c⟩ <;> omega
   ·rw[n2 y ey,n2 z ez];exact h.numInj y z
 ·intro y;show Bx s.on x true y=true↔y∈x::s.nodes;by_cases e:y=x
  ·subst e;rw[o1];simp
  ·rw[o2 y e,h.onNodes y];simp[e]
 ·show(x::s.nodes).Pairwise _;refine BG.2 ⟨?_,?_⟩
  ·intro y hy;have hy':=(h.onNodes y).2 hy;show Bx s.num x _ y<Bx s.num x _ x;rw[n1,n2 y (hon2 y hy')];exact hlt y hy'
  ·refine h.sorted.imp_of_mem ?_;intro a b ha hb hab;show Bx s.num x _ b<Bx s.num x _ a;rw[n2 b (hon2 b ((h.onNodes b).2 hb)),n2 a (hon2 a ((h.onNodes a).2 ha))];exact hab
 ·intro y;show Bx s.on x true y=true→0≤Bx s.num x _ y;by_cases e:y=x
  ·subst e;rw[n1];intro _;omega
  ·rw[o2 y e,n2 y e];exact h.onSeen y
 ·intro c hc;show Bx s.on x true c.1=true;rcases Br.1 hc with rfl | hc
  ·exact o1
  ·rw[o2 _ (hcx c hc)];exact h.callsOn c hc
 ·show((x,G.S x)::s.calls).Pairwise _;refine BG.2 ⟨?_,?_⟩
  ·intro c hc;show Bx s.num x _ c.1<Bx s.num x _ x;rw[n1,n2 _ (hcx c hc)];exact hlt _ (h.callsOn c hc)
  ·refine h.csorted.imp_of_mem ?_;intro a b ha hb hab;show Bx s.num x _ b.1<Bx s.num x _ a.1;rw[n2 _ (hcx b hb),n2 _ (hcx a ha)];exact hab
 ·intro c hc;rcases Br.1 hc with rfl | hc
  ·exact⟨AQ _,G.hS x hn⟩
  ·exact h.next c hc
 ·intro c hc y;show Bx s.on x true y=true→Bx s.num x _ c.1≤Bx s.num x _ y→Io G.E c.1 y;rcases Br.1 hc with rfl | hc
  ·by_cases e:y=x
   ·subst e;intro _ _;exact .refl _
   ·rw[o2 y e,n1,n2 y e];intro hy hle;have:=hlt y hy;omega
  ·have hpc:=hp c hc;by_cases e:y=x
   ·rw[e];intro _ _;exact hpc
   ·rw[o2 y e,n2 _ (hcx c hc),n2 y e];exact h.chain c hc y
 ·intro y z;show 0≤Bx s.num x _ y→Bx s.on x true y=false→G.E y z→0≤Bx s.num x _ z∧Bx s.on x true z=false;by_cases e:y=x
  ·subst e;rw[o1];intro _ h';cases h'
  ·rw[n2 y e,o2 y e];intro a b c;obtain⟨p,q⟩:=h.shut y z a b c;have:=hne z p;rw[n2 z this,o2 z this];exact⟨p,q⟩
 ·intro y k;show Bx s.on x true y=true→Kk G (ON G s x) y k→0≤Bx s.num x _ (G.T k);by_cases e:y=x
  ·subst e;intro _ hk;exact(hpx k hk).elim
  ·rw[o2 y e];intro hy hk;have:=h.proc y k hy (hpr y k e hk);rw[n2 _ (hne _ this)];exact this
 ·intro y;show Bx s.on x true y=true→Bx s.low x _ y≤Bx s.num x _ y;by_cases e:y=x
  ·subst e;rw[l1,n1];intro _;exact Int.le_refl _
  ·rw[o2 y e,l2 y e,n2 y e];exact h.lowLe y
 ·intro y;show Bx s.on x true y=true→∃z,Bx s.on x true z=true∧Bx s.num x _ z=Bx s.low x _ y∧Io G.E y z;by_cases e:y=x
  ·subst e;intro _;exact⟨y,o1,by rw[n1,l1],.refl _⟩
  ·rw[o2 y e];intro hy;obtain⟨z,a,b,c⟩:=h.lowIs y hy;exact⟨z,by rw[o2 z (hon2 z a)];exact a,by rw[n2 z (hon2 z a),l2 y e];exact b,c⟩
 ·intro y;show Bx s.on x true y=true→(∀c∈(x,G.S x)::s.calls,c.1≠y)→Bx s.low x _ y<Bx s.num x _ y;by_cases e:y=x
  ·subst e;intro _ hc;exact(hc _ (List.mem_cons_self ..) rfl).elim
  ·rw[o2 y e,l2 y e,n2 y e];intro hy hc;exact h.lowLt y hy (fun c hc'=>hc c (List.mem_cons_of_mem _ hc'))
 ·intro c hc y;show Bx s.on x true y=true→Bx s.num x _ c.1≤Bx s.num x _ y→(∀c'∈(x,G.S x)::s.calls,Bx s.num x _ c'.1≤Bx s.num x _ y→Bx s.num x _ c'.1≤Bx s.num x _ c.1)→∀k,Kk G (ON G s x) y k→Bx s.on x true (G.T k)=true→Bx s.low x _ c.1≤Bx s.num x _ (G.T k);by_cases e:y=x
  ·subst e;intro _ _ _ k hk;exact(hpx k hk).elim
  ·rw[o2 y e,n2 y e];intro hy hle hlast k hk hot;have hk':=hpr y k e hk;have hs:=h.proc y k hy hk';have htx:=hne _ hs;rw[o2 _ htx]at hot;rw[n2 _ htx];rcases Br.1 hc with rfl | hc
   ·rw[n1]at hle;have:=hlt y hy;omega
   ·rw[n2 _ (hcx c hc)]at hle;rw[l2 _ (hcx c hc)];refine h.lowAll c hc y hy hle (fun c' hc' hle'=>?_) k hk' hot;have:=hlast c' (List.mem_cons_of_mem _ hc');rw[n2 _ (hcx c' hc'),n2 _ (hcx c hc)]at this;exact this hle'
 ·intro y;show Bx s.on x true y=true→∃c∈(x,G.S x)::s.calls,Bx s.num x _ c.1≤Bx s.num x _ y;by_cases e:y=x
  ·subst e;intro _;exact⟨_,List.mem_cons_self ..,Int.le_refl _⟩
  ·rw[o2 y e,n2 y e];intro hy;obtain⟨c,hc,hle⟩:=h.bottom y hy;exact⟨c,List.mem_cons_of_mem _ hc,by rw[n2 _ (hcx c hc)];exact hle⟩
 ·intro y;show 0≤Bx s.num x _ y→Bx s.on x true y=false→0≤s.part y∧s.part y<s.parts;by_cases e:y=x
  ·subst e;rw[o1];intro _ h';cases h'
  ·rw[n2 y e,o2 y e];exact h.partLt y
 ·intro y z;show 0≤Bx s.num x _ y→Bx s.on x true y=false→0≤Bx s.num x _ z→Bx s.on x true z=false→_;by_cases ey:y=x
  ·subst ey;rw[o1];intro _ h';cases h'
  ·by_cases ez:z=x
   ·subst ez;rw[o1];intro _ _ _ h';cases h'
   ·rw[n2 y ey,o2 y ey,n2 z ez,o2 z ez];exact h.partEq y z
theorem Gm.lowUpd{G:TG}{s:TS}(h:Gm G s){x y:Nat}(hx:∃c∈s.calls,c.1=x)(hy:s.on y=true)(hp:Io G.E x y):Gm G {s with low:=Bx s.low x (min (s.low x) (s.num y))}:=by
 obtain⟨c0,hc0,hcx⟩:=hx;have hxo:s.on x=true:=by rw[← hcx];exact h.callsOn c0 hc0
 have l1:Bx s.low x (min (s.low x) (s.num y)) x=min (s.low x) (s.num y):=AS _ _ _;have l2:∀z,z≠x→Bx s.low x (min (s.low x) (s.num y)) z=s.low z:=fun z hz=>AE _ _ _ _ hz;have l3:∀z,Bx s.low x (min (s.low x) (s.num y)) z≤s.low z:=fun z=>by
  by_cases e:z=x
  ·rw[e,l1];omega
  ·rw[l2 z e];exact Int.le_refl _
 refine⟨h.numLt,h.numInj,h.onNodes,h.sorted,h.onSeen,h.callsOn,h.csorted,h.next,h.chain,h.shut,h.proc,?_,?_,?_,?_,h.bottom,h.partLt,h.partEq⟩
 ·intro z hz;exact Int.le_trans (l3 z) (h.lowLe z hz)
 ·intro z hz;show∃q,s.on q=true∧s.num q=Bx s.low x _ z∧Io G.E z q;by_cases e:z=x
  ·rw[e,l1];obtain⟨q,a,b,c⟩:=h.lowIs x hxo;by_cases hle:s.low x≤s.num y
   ·exact⟨q,a,by rw[b];omega,c⟩
   ·exact⟨y,hy,by omega,hp⟩
  ·rw[l2 z e];exact h.lowIs z hz
 ·intro z hz hc;exact Int.lt_of_le_of_lt (l3 z) (h.lowLt z hz hc)
 ·intro c hc z hz hle hl k hk ho;exact Int.le_trans (l3 _) (h.lowAll c hc z hz hle hl k hk ho)
theorem Gm.advance {G:TG} {s:TS} (h:Gm G s) {pre rest:List (Nat×Nat)} {i nx:Nat} (hc:s.calls=pre++(i,nx)::rest) (hlt:nx<G.S (i+1)) (hs:0≤s.num (G.T nx))
 (ho:s.on (G.T nx)=true→s.low i≤s.num (G.T nx)):Gm G {s with calls:=pre++(i,nx+1)::rest}:=by
 have hmem:(i,nx)∈s.calls:=by rw[hc];simp
 have hback:∀c∈pre++(i,nx+1)::rest,c=(i,nx+1)∨c∈s.calls:=by
  intro c hcm;rw[hc];rcases CJ.1 hcm with q | q
  ·exact .inr (CJ.2 (.inl q))
  ·rcases Br.1 q with rfl | q
   ·exact .inl rfl
   ·exact .inr (CJ.2 (.inr (List.mem_cons_of_mem _ q)))
 have hfst:∀c∈pre++(i,nx+1)::rest,∃c'∈s.calls,c'.1=c.1:=by
  intro c hcm;rcases hback c hcm with rfl | q
  ·exact⟨_,hmem,rfl⟩
  ·exact⟨c,q,rfl⟩
 have hfor:∀c∈s.calls,∃c'∈pre++(i,nx+1)::rest,c'.1=c.1∧(c'.2=c.2∨c=(i,nx)∧c'=(i,nx+1)):=by
  intro c hcm;rw[hc]at hcm;rcases CJ.1 hcm with q | q
  ·exact⟨c,CJ.2 (.inl q),rfl,.inl rfl⟩
  ·rcases Br.1 q with rfl | q
   ·exact⟨(i,nx+1),by simp,rfl,.inr ⟨rfl,rfl⟩⟩
   ·exact⟨c,CJ.2 (.inr (List.mem_cons_of_mem _ q)),rfl,.inl rfl⟩
 have hpr:∀x k,Kk G {s with calls:=pre++(i,nx+1)::rest} x k→Kk G s x k∨(x=i∧k=nx):=by
  intro x k ⟨a,b,c⟩;by_cases e:x=i∧k=nx
  ·exact .inr e
  ·left;refine⟨a,b,fun d hd hdx=>?_⟩;obtain⟨d',hd',e1,e2⟩:=hfor d hd;have:=c d' hd' (by rw[e1];exact hdx);rcases e2 with e2 | ⟨e2,e3⟩
   ·omega
   ·rw[e3]at this;rw[e2]at hdx ⊢;simp only at this hdx ⊢;have:k≠nx:=fun e4=>e ⟨hdx.symm,e4⟩;omega
 refine⟨h.numLt,h.numInj,h.onNodes,h.sorted,h.onSeen,?_,?_,?_,?_,h.shut,?_,h.lowLe,h.lowIs,?_,?_,?_,h.partLt,h.partEq⟩
 ·intro c hcm;obtain⟨c',a,b⟩:=hfst c hcm;rw[← b];exact h.callsOn c' a
 ·have hsrt:=h.csorted;rw[hc]at hsrt;show(pre++(i,nx+1)::rest).Pairwise _;rw[List.pairwise_append]at hsrt ⊢;obtain⟨a,b,c⟩:=hsrt;rw[BG]at b;refine⟨a,BG.2 ⟨b.1,b.2⟩,fun x hx y hy=>?_⟩;rcases Br.1 hy with rfl | hy
  ·exact c x hx (i,nx) (List.mem_cons_self ..)
  ·exact c x hx y (List.mem_cons_of_mem _ hy)
 ·intro c hcm;rcases hback c hcm with rfl | q
  ·have:=h.next _ hmem;simp only at this ⊢;omega
  ·exact h.next c q
 ·intro c hcm x hx hle;obtain⟨c',a,b⟩:=hfst c hcm;rw[← b]at hle ⊢;exact h.chain c' a x hx hle
 ·intro x k hx hk;rcases hpr x k hk with q | ⟨rfl,rfl⟩
  ·exact h.proc x k hx q
  ·exact hs
 ·intro x hx hcm;refine h.lowLt x hx (fun c hc' e=>?_);obtain⟨c',a,b,-⟩:=hfor c hc';exact hcm c' a (by rw[b];exact e)
 ·intro c hcm x hx hle hl k hk hon;obtain⟨c',a,b⟩:=hfst c hcm;rw[← b]at hle ⊢;rcases hpr x k hk with q | ⟨e1,e2⟩
  ·refine h.lowAll c' a x hx hle (fun d hd hdle=>?_) k q hon;obtain⟨d',f,g,-⟩:=hfor d hd;rw[← g]at hdle ⊢;rw[b];exact hl d' f hdle
  ·subst e1 e2;have h1:s.num x≤s.num c.1:=hl (x,k+1) (by simp) (Int.le_refl _);have h2:s.num c'.1≤s.num x:=hle;rw[← b]at h1;have:c'.1=x:=h.numInj _ _ (h.onSeen _ (h.callsOn c' a)) (by omega);rw[this];exact ho hon
 ·intro x hx;obtain⟨c,hc',hle⟩:=h.bottom x hx;obtain⟨c',a,b,-⟩:=hfor c hc';exact⟨c',a,by rw[b];exact hle⟩
theorem Gm.reachGray{G:TG}{s:TS}(h:Gm G s):∀(m:Nat) (x:Nat),s.on x=true→(s.num x).toNat=m→∃c∈s.calls,s.num c.1≤s.num x∧Io G.E x c.1:=by
 intro m
 induction m using Nat.strongRecOn with
 | _ m ih=>
  intro x hx hm;by_cases hc:∃c∈s.calls,c.1=x
  ·obtain⟨c,hc,e⟩:=hc;exact⟨c,hc,by rw[e];exact Int.le_refl _,by rw[e];exact .refl _⟩
  ·have hl:=h.lowLt x hx (fun c hc' e=>hc ⟨c,hc',e⟩);obtain⟨y,a,b,p⟩:=h.lowIs x hx;have h0:=h.onSeen y a;have h1:=h.onSeen x hx;obtain⟨c,hc',hle,hp⟩:=ih (s.num y).toNat (by omega) y a rfl;exact⟨c,hc',by omega,p.trans hp⟩
theorem Gm.pop{G:TG}{s:TS}(h:Gm G s){i nx u nu:Nat}{rest:List (Nat×Nat)}(hc:s.calls=(i,nx)::(u,nu)::rest)(hnx:nx=G.S (i+1))(hl:s.low i<s.num i)(hlu:s.low u≤s.low i):
 Gm G {s with calls:=(u,nu)::rest}:=by
 have hsub:∀c∈(u,nu)::rest,c∈s.calls:=fun c hcm=>by rw[hc];exact List.mem_cons_of_mem _ hcm
 have hi:(i,nx)∈s.calls:=by rw[hc];exact List.mem_cons_self ..
 have hu:(u,nu)∈s.calls:=hsub _ (List.mem_cons_self ..);have hsrt:=h.csorted;rw[hc,BG,BG]at hsrt;have hui:s.num u<s.num i:=hsrt.1 (u,nu) (List.mem_cons_self ..);have hpr:∀x k,Kk G {s with calls:=(u,nu)::rest} x k→Kk G s x k:=by
  intro x k ⟨a,b,c⟩;refine⟨a,b,fun d hd e=>?_⟩;rw[hc]at hd;rcases Br.1 hd with rfl | hd
  ·simp only at e ⊢;subst e;omega
  ·exact c d hd e
 refine⟨h.numLt,h.numInj,h.onNodes,h.sorted,h.onSeen,fun c hcm=>h.callsOn c (hsub c hcm),BG.2 hsrt.2,fun c hcm=>h.next c (hsub c hcm),fun c hcm=>h.chain c (hsub c hcm),h.shut,fun x k hx hk=>h.proc x k hx (hpr x k hk),h.lowLe,h.lowIs,?_,?_,?_,h.partLt,h.partEq⟩
 ·intro x hx hcm;by_cases e:i=x
  ·subst e;exact hl
  ·refine h.lowLt x hx (fun c hc' e2=>?_);rw[hc]at hc';rcases Br.1 hc' with rfl | hc'
   ·exact e e2
   ·exact hcm c hc' e2
 ·intro c hcm x hx hle hlast k hk hon;have hk':=hpr x k hk;by_cases e:s.num i≤s.num x
  ·have h1:=hlast (u,nu) (List.mem_cons_self ..) (by simp only;omega);simp only at h1;have hcu:s.num c.1≤s.num u:=by
    rcases Br.1 hcm with rfl | hcm
    ·exact Int.le_refl _
    ·exact Int.le_of_lt (hsrt.2.1 c hcm)
   have:c.1=u:=h.numInj _ _ (h.onSeen _ (h.callsOn c (hsub c hcm))) (by omega);rw[this];have h2:=h.lowAll (i,nx) hi x hx e (fun c' hc' _=>by
    rw[hc]at hc';rcases Br.1 hc' with rfl | hc'
    ·exact Int.le_refl _
    ·exact Int.le_of_lt (hsrt.1 c' hc')) k hk' hon
   simp only at h2;exact Int.le_trans hlu h2
  ·refine h.lowAll c (hsub c hcm) x hx hle (fun c' hc' hle'=>?_) k hk' hon;rw[hc]at hc';rcases Br.1 hc' with rfl | hc'
   ·simp only at hle';omega
   ·exact hlast c' hc' hle'
 ·intro x hx;obtain⟨c,hc',hle⟩:=h.bottom x hx;rw[hc]at hc';rcases Br.1 hc' with rfl | hc'
  ·exact⟨(u,nu),List.mem_cons_self ..,by simp only at hle ⊢;omega⟩
  ·exact⟨c,hc',hle⟩
theorem Gm.last{G:TG}{s:TS}(h:Gm G s){i nx:Nat}(hc:s.calls=[(i,nx)]):s.low i=s.num i:=by
 have hi:(i,nx)∈s.calls:=by rw[hc];exact List.mem_cons_self ..
 have ho:=h.callsOn _ hi;have h1:=h.lowLe i ho;obtain⟨y,a,b,-⟩:=h.lowIs i ho;obtain⟨c,hc',hle⟩:=h.bottom y a;rw[hc]at hc';obtain rfl:c=(i,nx):=by simpa using hc'
 simp only at hle;omega
def QF(s:TS)(i:Nat)(suf:List Nat)(rest:List (Nat×Nat)):TS:=
 {s with on:=fun x=>s.on x&&decide (s.num x<s.num i),nodes:=suf,part:=fun x=>if s.on x=true∧s.num i≤s.num x then(s.parts:Int) else s.part x,parts:=s.parts+1,calls:=rest}
theorem Gm.close{G:TG}{s:TS}(h:Gm G s){i nx:Nat}{rest:List (Nat×Nat)}(hc:s.calls=(i,nx)::rest)(hnx:nx=G.S (i+1))(hl:s.low i=s.num i){pre suf:List Nat}(hn:s.nodes=pre++i::suf):
 Gm G (QF s i suf rest):=by
 have hi:(i,nx)∈s.calls:=by rw[hc];exact List.mem_cons_self ..
 have hio:=h.callsOn _ hi;have hi0:=h.onSeen i hio;have hsub:∀c∈rest,c∈s.calls:=fun c hcm=>by rw[hc];exact List.mem_cons_of_mem _ hcm
 have hsrt:=h.csorted;rw[hc,BG]at hsrt;have hns:=h.sorted;rw[hn,List.pairwise_append,BG]at hns
 -- on below i:the rest of the stack
 have hon':∀x,(s.on x&&decide (s.num x<s.num i))=true↔s.on x=true∧s.num x<s.num i:=fun x=>by simp
 have hoff:∀x,(s.on x&&decide (s.num x<s.num i))=false↔(s.on x=false∨s.num i≤s.num x):=fun x=>by
  cases s.on x <;> simp
 have hD:∀x,s.on x=true→s.num i≤s.num x→Io G.E i x∧Io G.E x i:=by
  intro x hx hle;refine⟨h.chain _ hi x hx hle,?_⟩;obtain⟨c,hc',hle',hp⟩:=h.reachGray _ x hx rfl;refine hp.trans ?_;have:s.num c.1≤s.num i:=by
   rw[hc]at hc';rcases Br.1 hc' with rfl | hc'
   ·exact Int.le_refl _
   ·exact Int.le_of_lt (hsrt.1 c hc')
  exact h.chain c hc' i hio this
 have hall:∀x k,s.on x=true→s.num i≤s.num x→G.S x≤k→k<G.S (x+1)→Kk G s x k:=by
  intro x k hx hle a b;refine⟨a,b,fun c hc' e=>?_⟩;rw[hc]at hc';rcases Br.1 hc' with rfl | hc'
  ·simp only at e ⊢;subst e;omega
  ·have:=hsrt.1 c hc';rw[e]at this;simp only at this;omega
 have hlastI:∀x,∀c'∈s.calls,s.num c'.1≤s.num x→s.num c'.1≤s.num i:=by
  intro x c' hc' _;rw[hc]at hc';rcases Br.1 hc' with rfl | hc'
  ·exact Int.le_refl _
  ·exact Int.le_of_lt (hsrt.1 c' hc')
 have hshut:∀x y,0≤s.num x→(s.on x=false∨s.num i≤s.num x)→G.E x y→0≤s.num y∧(s.on y=false∨s.num i≤s.num y):=by
  intro x y h0 hx hE;rcases hx with hx | hx
  ·obtain⟨a,b⟩:=h.shut x y h0 hx hE;exact⟨a,.inl b⟩
  ·cases hxo:s.on x
   ·obtain⟨a,b⟩:=h.shut x y h0 hxo hE;exact⟨a,.inl b⟩
   ·obtain⟨-,k,a,b,rfl⟩:=hE;have hk:=hall x k hxo hx a b;refine⟨h.proc x k hxo hk,?_⟩;cases hyo:s.on (G.T k)
    ·exact .inl rfl
    ·right;have:=h.lowAll (i,nx) hi x hxo hx (fun c' hc' hle=>hlastI x c' hc' hle) k hk hyo;simp only at this;omega
 -- what is shut stays shut along paths
 have hshutP:∀x y,0≤s.num x→s.on x=false→Io G.E x y→0≤s.num y∧s.on y=false:=by
  intro x y h0 hx hp
  induction hp with
  | refl=>exact⟨h0,hx⟩
  | step _ e ih=>exact h.shut _ _ ih.1 ih.2 e
 have hpr:∀x k,s.on x=true→s.num x<s.num i→Kk G (QF s i suf rest) x k→Kk G s x k:=by
  intro x k hx hlt ⟨a,b,c⟩;refine⟨a,b,fun d hd e=>?_⟩;rw[hc]at hd;rcases Br.1 hd with rfl | hd
  ·simp only at e;subst e;omega
  ·exact c d hd e
 refine⟨h.numLt,h.numInj,?_,hns.2.1.2,?_,?_,hsrt.2,fun c hcm=>h.next c (hsub c hcm),?_,?_,?_,?_,?_,?_,?_,?_,?_,?_⟩
 ·intro x;show(s.on x&&decide (s.num x<s.num i))=true↔x∈suf;rw[hon',h.onNodes,hn];constructor
  ·rintro⟨hm,hlt⟩;rcases CJ.1 hm with q | q
   ·have:=hns.2.2 x q i (List.mem_cons_self ..);omega
   ·rcases Br.1 q with rfl | q
    ·omega
    ·exact q
  ·intro q;exact⟨CJ.2 (.inr (List.mem_cons_of_mem _ q)),hns.2.1.1 x q⟩
 ·intro x hx;exact h.onSeen x ((hon' x).1 hx).1
 ·intro c hcm;exact(hon' _).2 ⟨h.callsOn c (hsub c hcm),hsrt.1 c hcm⟩
 ·intro c hcm x hx hle;exact h.chain c (hsub c hcm) x ((hon' x).1 hx).1 hle
 ·intro x y h0 hx hE;obtain⟨a,b⟩:=hshut x y h0 ((hoff x).1 hx) hE;exact⟨a,(hoff y).2 b⟩
 ·intro x k hx hk;obtain⟨hx1,hx2⟩:=(hon' x).1 hx;exact h.proc x k hx1 (hpr x k hx1 hx2 hk)
 ·intro x hx;exact h.lowLe x ((hon' x).1 hx).1
 ·intro x hx;obtain⟨hx1,hx2⟩:=(hon' x).1 hx;obtain⟨y,a,b,p⟩:=h.lowIs x hx1;have:=h.lowLe x hx1;exact⟨y,(hon' y).2 ⟨a,by omega⟩,b,p⟩
 ·intro x hx hcm;obtain⟨hx1,hx2⟩:=(hon' x).1 hx;refine h.lowLt x hx1 (fun c hc' e=>?_);rw[hc]at hc';rcases Br.1 hc' with rfl | hc'
  ·simp only at e;subst e;omega
  ·exact hcm c hc' e
 ·intro c hcm x hx hle hlast k hk hon;obtain⟨hx1,hx2⟩:=(hon' x).1 hx;obtain⟨hy1,-⟩:=(hon' _).1 hon;refine h.lowAll c (hsub c hcm) x hx1 hle (fun c' hc' hle'=>?_) k (hpr x k hx1 hx2 hk) hy1;rw[hc]at hc';rcases Br.1 hc' with rfl | hc'
  ·simp only at hle';omega
  ·exact hlast c' hc' hle'
 ·intro x hx;obtain⟨hx1,hx2⟩:=(hon' x).1 hx;obtain⟨c,hc',hle⟩:=h.bottom x hx1;rw[hc]at hc';rcases Br.1 hc' with rfl | hc'
  ·simp only at hle;omega
  ·exact⟨c,hc',hle⟩
 ·intro x h0 hx;show 0≤(if s.on x=true∧s.num i≤s.num x then(s.parts:Int) else s.part x)∧(if s.on x=true∧s.num i≤s.num x then(s.parts:Int) else s.part x)<((s.parts+1:Nat):Int);by_cases hd:s.on x=true∧s.num i≤s.num x
  ·rw[if_pos hd];omega
  ·rw[if_neg hd];have:s.on x=false:=by
    rcases(hoff x).1 hx with q | q
    ·exact q
    ·cases e:s.on x
     ·rfl
     ·exact(hd ⟨e,q⟩).elim
   have:=h.partLt x h0 this;omega
 ·intro x y hx0 hx hy0 hy;show(if s.on x=true∧s.num i≤s.num x then(s.parts:Int) else s.part x)=(if s.on y=true∧s.num i≤s.num y then(s.parts:Int) else s.part y)↔_;have hsplit:∀z,(s.on z&&decide (s.num z<s.num i))=false→¬(s.on z=true∧s.num i≤s.num z)→s.on z=false:=by
   intro z hz hd;rcases(hoff z).1 hz with q | q
   ·exact q
   ·cases e:s.on z
    ·rfl
    ·exact(hd ⟨e,q⟩).elim
  by_cases hdx:s.on x=true∧s.num i≤s.num x
  ·rw[if_pos hdx];obtain⟨p1,p2⟩:=hD x hdx.1 hdx.2;by_cases hdy:s.on y=true∧s.num i≤s.num y
   ·rw[if_pos hdy];obtain⟨p3,p4⟩:=hD y hdy.1 hdy.2;exact⟨fun _=>⟨p2.trans p3,p4.trans p1⟩,fun _=>rfl⟩
   ·rw[if_neg hdy];have hyo:=hsplit y hy hdy;have hlt:=(h.partLt y hy0 hyo).2;constructor
    ·intro e;omega
    ·rintro⟨-,q⟩;have:=(hshutP y x hy0 hyo q).2;rw[hdx.1]at this;cases this
  ·rw[if_neg hdx];have hxo:=hsplit x hx hdx;by_cases hdy:s.on y=true∧s.num i≤s.num y
   ·rw[if_pos hdy];have hlt:=(h.partLt x hx0 hxo).2;constructor
    ·intro e;omega
    ·rintro⟨q,-⟩;have:=(hshutP x y hx0 hxo q).2;rw[hdy.1]at this;cases this
   ·rw[if_neg hdy];exact h.partEq x y hx0 hxo hy0 (hsplit y hy hdy)
def Xi(l:List Nat):List Value:=l.reverse.map (fun x=>Value.int .i64 (x:Nat))
def UO(l:List (Nat×Nat)):List Value:=l.reverse.flatMap (fun c=>[Value.int .i64 (c.1:Nat),Value.int .i64 (c.2:Nat)])
theorem Kq(l:List Nat):(Xi l).length=l.length:=by simp[Xi]
theorem NL(x:Nat)(l:List Nat):Xi (x::l)=Xi l++[.int .i64 (x:Nat)]:=by simp[Xi]
theorem GY(c:Nat×Nat)(l:List (Nat×Nat)):UO (c::l)=UO l++[.int .i64 (c.1:Nat),.int .i64 (c.2:Nat)]:=by simp[UO]
theorem Ew:∀l:List (Nat×Nat),(UO l).length=l.length*2
 | []=>rfl
 | c::l=>by rw[GY,Bs,Ew l];simp;omega
abbrev GJ(b n:Nat):Value:=.slice (some ⟨b,0,none⟩) n n
structure Ex(w wr:World)(gS gA gT:Value)(sb bn bl bo bp base n:Nat)(num low:Nat→Int)(on:Nat→Bool)(nodes:List Nat)(part:Nat→Int)(parts:Nat)(calls:List (Nat×Nat))(nv cv:Value):Prop where
 below:Below w.heap.size w wr
 hs:wr.heap[sb]?=some (.cells #[gS,gA,gT,GJ bn n,GJ bl n,GJ bo n,nv,GJ bp n,.int .i64 (parts:Nat),cv] 157 (0,0))
 hn:wr.heap[bn]?=some (.cells (ints (BV n num)) 3 (0,0))
 hl:wr.heap[bl]?=some (.cells (ints (BV n low)) 3 (0,0))
 ho:wr.heap[bo]?=some (.cells (bools (BV n on)) 4 (0,0))
 hp:wr.heap[bp]?=some (.cells (ints (BV n part)) 3 (0,0))
 rn:wr.ownsRow base 3 1 nv nodes.length (Xi nodes)
 rc:wr.ownsRow base 166 2 cv calls.length (UO calls)
 d:(w.heap.size≤sb∧w.heap.size≤bn∧w.heap.size≤bl∧w.heap.size≤bo∧w.heap.size≤bp)∧(sb<base∧bn<base∧bl<base∧bo<base∧bp<base)∧sb≠bn∧sb≠bl∧sb≠bo∧sb≠bp∧bn≠bl∧bn≠bo∧bn≠bp∧bl≠bo∧bl≠bp∧bo≠bp
 hb:base≤wr.heap.size
section
variable {w wr:World} {gS gA gT:Value} {sb bn bl bo bp base n:Nat} {num low:Nat→Int} {on:Nat→Bool} {nodes:List Nat} {part:Nat→Int} {parts:Nat} {calls:List (Nat×Nat)} {nv cv:Value}
theorem Ex.drew(h:Ex w wr gS gA gT sb bn bl bo bp base n num low on nodes part parts calls nv cv):Ex w wr.drew gS gA gT sb bn bl bo bp base n num low on nodes part parts calls nv cv:=
 ⟨h.below.drew,h.hs,h.hn,h.hl,h.ho,h.hp,h.rn,h.rc,h.d,h.hb⟩
theorem Ex.more(h:Ex w wr gS gA gT sb bn bl bo bp base n num low on nodes part parts calls nv cv){w':World}(hb:Below wr.heap.size wr w'):Ex w w' gS gA gT sb bn bl bo bp base n num low on nodes part parts calls nv cv:=
 ⟨h.below.trans (hb.mono h.below.size),Ah hb h.hs,Ah hb h.hn,Ah hb h.hl,Ah hb h.ho,Ah hb h.hp,Al (F:=fun _=>False) h.rn (Df hb _) (fun _ _=>id),Al (F:=fun _=>False) h.rc (Df hb _) (fun _ _=>id),h.d,CP h.hb hb.size⟩
theorem Ex.cell(h:Ex w wr gS gA gT sb bn bl bo bp base n num low on nodes part parts calls nv cv)(i:Nat)(v:Value)(hi:#[gS,gA,gT,GJ bn n,GJ bl n,GJ bo n,nv,GJ bp n,.int .i64 (parts:Nat),cv][i]?=some v):wr.cell? ⟨sb,i,none⟩=some v:=Ab h.hs i v hi
theorem Ex.free(h:Ex w wr gS gA gT sb bn bl bo bp base n num low on nodes part parts calls nv cv)(i:Nat):wr.frozen? ⟨sb,i,none⟩=false:=Ag h.hs i
theorem Gq{α:Type}(m:Nat)(f:Nat→α)(k:Nat)(v:α):(BV m f).set k v=BV m (Bx f k v):=MI m f (Bx f k v) k v (fun _=>AS _ _ _) (fun _ _ hx=>AE _ _ _ _ hx)
theorem Ex.setNum(h:Ex w wr gS gA gT sb bn bl bo bp base n num low on nodes part parts calls nv cv)(k:Nat)(v:Int):Ex w (wr.setCell ⟨bn,k,none⟩ (.int .i64 v)) gS gA gT sb bn bl bo bp base n (Bx num k v) low on nodes part parts calls nv cv:=by
 have hf:Bn (fun q=>q=bn) wr (wr.setCell ⟨bn,k,none⟩ (.int .i64 v)):=(Bn.refl (fun q=>q=bn) wr).setCell (p:=⟨bn,k,none⟩) (fun _=>rfl) _;obtain⟨d1,d2,d3⟩:=h.d;refine⟨h.below.setCell (p:=⟨bn,k,none⟩) d1.2.1 _,hf.heap h.hs (by omega),?_,hf.heap h.hl (by omega),hf.heap h.ho (by omega),hf.heap h.hp (by omega),Al h.rn hf (fun q hq e=>by have:=(h.rn.lt q hq).1;omega),Al h.rc hf (fun q hq e=>by have:=(h.rc.lt q hq).1;omega),h.d,by simpa using h.hb⟩;rw[Ac h.hn,Fc,Gq]
theorem Ex.setLow(h:Ex w wr gS gA gT sb bn bl bo bp base n num low on nodes part parts calls nv cv)(k:Nat)(v:Int):Ex w (wr.setCell ⟨bl,k,none⟩ (.int .i64 v)) gS gA gT sb bn bl bo bp base n num (Bx low k v) on nodes part parts calls nv cv:=by
 have hf:Bn (fun q=>q=bl) wr (wr.setCell ⟨bl,k,none⟩ (.int .i64 v)):=(Bn.refl (fun q=>q=bl) wr).setCell (p:=⟨bl,k,none⟩) (fun _=>rfl) _;obtain⟨d1,d2,d3⟩:=h.d;refine⟨h.below.setCell (p:=⟨bl,k,none⟩) d1.2.2.1 _,hf.heap h.hs (by omega),hf.heap h.hn (by omega),?_,hf.heap h.ho (by omega),hf.heap h.hp (by omega),Al h.rn hf (fun q hq e=>by have:=(h.rn.lt q hq).1;omega),Al h.rc hf (fun q hq e=>by have:=(h.rc.lt q hq).1;omega),h.d,by simpa using h.hb⟩;rw[Ac h.hl,Fc,Gq]
theorem Ex.setPart(h:Ex w wr gS gA gT sb bn bl bo bp base n num low on nodes part parts calls nv cv)(k:Nat)(v:Int):Ex w (wr.setCell ⟨bp,k,none⟩ (.int .i64 v)) gS gA gT sb bn bl bo bp base n num low on nodes (Bx part k v) parts calls nv cv:=by
 have hf:Bn (fun q=>q=bp) wr (wr.setCell ⟨bp,k,none⟩ (.int .i64 v)):=(Bn.refl (fun q=>q=bp) wr).setCell (p:=⟨bp,k,none⟩) (fun _=>rfl) _;obtain⟨d1,d2,d3⟩:=h.d;refine⟨h.below.setCell (p:=⟨bp,k,none⟩) d1.2.2.2.2 _,hf.heap h.hs (by omega),hf.heap h.hn (by omega),hf.heap h.hl (by omega),hf.heap h.ho (by omega),?_,Al h.rn hf (fun q hq e=>by have:=(h.rn.lt q hq).1;omega),Al h.rc hf (fun q hq e=>by have:=(h.rc.lt q hq).1;omega),h.d,by simpa using h.hb⟩;rw[Ac h.hp,Fc,Gq]
theorem Ex.setOn(h:Ex w wr gS gA gT sb bn bl bo bp base n num low on nodes part parts calls nv cv)(k:Nat)(v:Bool):Ex w (wr.setCell ⟨bo,k,none⟩ (.bool v)) gS gA gT sb bn bl bo bp base n num low (Bx on k v) nodes part parts calls nv cv:=by
 have hf:Bn (fun q=>q=bo) wr (wr.setCell ⟨bo,k,none⟩ (.bool v)):=(Bn.refl (fun q=>q=bo) wr).setCell (p:=⟨bo,k,none⟩) (fun _=>rfl) _;obtain⟨d1,d2,d3⟩:=h.d;refine⟨h.below.setCell (p:=⟨bo,k,none⟩) d1.2.2.2.1 _,hf.heap h.hs (by omega),hf.heap h.hn (by omega),hf.heap h.hl (by omega),?_,hf.heap h.hp (by omega),Al h.rn hf (fun q hq e=>by have:=(h.rn.lt q hq).1;omega),Al h.rc hf (fun q hq e=>by have:=(h.rc.lt q hq).1;omega),h.d,by simpa using h.hb⟩;rw[Ac h.ho,EW,Gq]
theorem Ex.setParts(h:Ex w wr gS gA gT sb bn bl bo bp base n num low on nodes part parts calls nv cv)(m:Nat):Ex w (wr.setCell ⟨sb,8,none⟩ (.int .i64 (m:Nat))) gS gA gT sb bn bl bo bp base n num low on nodes part m calls nv cv:=by
 have hf:Bn (fun q=>q=sb) wr (wr.setCell ⟨sb,8,none⟩ (.int .i64 (m:Nat))):=(Bn.refl (fun q=>q=sb) wr).setCell (p:=⟨sb,8,none⟩) (fun _=>rfl) _;obtain⟨d1,d2,d3⟩:=h.d;refine⟨h.below.setCell (p:=⟨sb,8,none⟩) d1.1 _,?_,hf.heap h.hn (by omega),hf.heap h.hl (by omega),hf.heap h.ho (by omega),hf.heap h.hp (by omega),Al h.rn hf (fun q hq e=>by have:=(h.rn.lt q hq).1;omega),Al h.rc hf (fun q hq e=>by have:=(h.rc.lt q hq).1;omega),h.d,by simpa using h.hb⟩;rw[Ac h.hs];rfl
theorem Ex.pushNode (h:Ex w wr gS gA gT sb bn bl bo bp base n num low on nodes part parts calls nv cv) (x m:Nat) (hm:nodes.length=m) {w2 w4:World} {g cap:Nat} (h2:Below wr.heap.size wr w2)
 (hg:w2.grownBy w4 nv.ownBlock) (hor:nv.ownBlock=some g∨g=w2.heap.size) (hown:w4.ownsRow base 3 1 (.slice (some ⟨g,0,none⟩) (m+1) cap) (m+1) (Xi nodes++[.int .i64 (x:Nat)])):
 w4.cell? ⟨sb,6,none⟩=some nv∧w4.frozen? ⟨sb,6,none⟩=false∧Ex w (w4.setCell ⟨sb,6,none⟩ (.slice (some ⟨g,0,none⟩) (m+1) cap)) gS gA gT sb bn bl bo bp base n num low on (x::nodes) part parts calls (.slice (some ⟨g,0,none⟩) (m+1) cap) cv:=by
 subst hm;have hM:=h.more h2;obtain⟨d1,d2,d3⟩:=h.d;have hbl:∀k,nv.ownBlock=some k→base≤k:=fun k hk=>(h.rn.lt k hk).1;have hold:∀(k:Nat) (o:Obj),k<base→w2.heap[k]?=some o→w4.heap[k]?=some o:=fun k o hk hh=>by
  rw[hg.block k (BO.1 hh).1 (fun e=>by have:=hbl k e.symm;omega)];exact hh
 have hs4:=hold _ _ d2.1 hM.hs;have hgb:=(hown.lt g rfl).1;have hf:Bn (fun q=>q=sb) w4 (w4.setCell ⟨sb,6,none⟩ (.slice (some ⟨g,0,none⟩) (nodes.length+1) cap)):=(Bn.refl (fun q=>q=sb) w4).setCell (p:=⟨sb,6,none⟩) (fun _=>rfl) _;have hrc:w4.ownsRow base 166 2 cv calls.length (UO calls):=by
  refine⟨hM.rc.1,?_⟩;rcases hM.rc.2 with hz | ⟨g',cap',cur,e,hb',hg',r⟩
  ·exact .inl hz
  ·refine .inr ⟨g',cap',cur,e,hb',?_,r⟩;rw[hg.block g' (BO.1 hg').1 ?_]
   ·exact hg'
   ·intro e2;rcases hM.rn.2 with⟨rfl,-⟩ | ⟨g3,cap3,cur3,rfl,-,hg3,-⟩
    ·simp[Value.ownBlock]at e2
    ·simp[Value.ownBlock]at e2;subst e2;rw[hg3]at hg';simp at hg'
 refine⟨Ab hs4 6 _ rfl,Ag hs4 6,(hM.below.grown hg (CP (by omega) hM.hb) (fun k hk=>by have:=hbl k hk;omega)).setCell (p:=⟨sb,6,none⟩) d1.1 _,?_,hf.heap (hold _ _ d2.2.1 hM.hn) (by omega),hf.heap (hold _ _ d2.2.2.1 hM.hl) (by omega),hf.heap (hold _ _ d2.2.2.2.1 hM.ho) (by omega),hf.heap (hold _ _ d2.2.2.2.2 hM.hp) (by omega),?_,Al hrc hf (fun q hq e=>by have:=(hrc.lt q hq).1;omega),h.d,by have:=hg.size;have:=hM.hb;simp;omega⟩
 ·rw[Ac hs4];rfl
 ·have:=Al hown hf (fun k hk e=>by simp[Value.ownBlock]at hk;omega);rw[NL];exact this
theorem Ex.pushCall (h:Ex w wr gS gA gT sb bn bl bo bp base n num low on nodes part parts calls nv cv) (x y m:Nat) (hm:calls.length=m) {w2 w4:World} {g cap:Nat} (h2:Below wr.heap.size wr w2)
 (hg:w2.grownBy w4 cv.ownBlock) (hor:cv.ownBlock=some g∨g=w2.heap.size) (hown:w4.ownsRow base 166 2 (.slice (some ⟨g,0,none⟩) (m+1) cap) (m+1) (UO calls++[.int .i64 (x:Nat),.int .i64 (y:Nat)])):
 w4.cell? ⟨sb,9,none⟩=some cv∧w4.frozen? ⟨sb,9,none⟩=false∧Ex w (w4.setCell ⟨sb,9,none⟩ (.slice (some ⟨g,0,none⟩) (m+1) cap)) gS gA gT sb bn bl bo bp base n num low on nodes part parts ((x,y)::calls) nv (.slice (some ⟨g,0,none⟩) (m+1) cap):=by
 subst hm;have hM:=h.more h2;obtain⟨d1,d2,d3⟩:=h.d;have hbl:∀k,cv.ownBlock=some k→base≤k:=fun k hk=>(h.rc.lt k hk).1;have hold:∀(k:Nat) (o:Obj),k<base→w2.heap[k]?=some o→w4.heap[k]?=some o:=fun k o hk hh=>by
  rw[hg.block k (BO.1 hh).1 (fun e=>by have:=hbl k e.symm;omega)];exact hh
 have hs4:=hold _ _ d2.1 hM.hs;have hgb:=(hown.lt g rfl).1;have hf:Bn (fun q=>q=sb) w4 (w4.setCell ⟨sb,9,none⟩ (.slice (some ⟨g,0,none⟩) (calls.length+1) cap)):=(Bn.refl (fun q=>q=sb) w4).setCell (p:=⟨sb,9,none⟩) (fun _=>rfl) _;have hrn:w4.ownsRow base 3 1 nv nodes.length (Xi nodes):=by
  refine⟨hM.rn.1,?_⟩;rcases hM.rn.2 with hz | ⟨g',cap',cur,e,hb',hg',r⟩
  ·exact .inl hz
  ·refine .inr ⟨g',cap',cur,e,hb',?_,r⟩;rw[hg.block g' (BO.1 hg').1 ?_]
   ·exact hg'
   ·intro e2;rcases hM.rc.2 with⟨rfl,-⟩ | ⟨g3,cap3,cur3,rfl,-,hg3,-⟩
    ·simp[Value.ownBlock]at e2
    ·simp[Value.ownBlock]at e2;subst e2;rw[hg3]at hg';simp at hg'
 refine⟨Ab hs4 9 _ rfl,Ag hs4 9,(hM.below.grown hg (CP (by omega) hM.hb) (fun k hk=>by have:=hbl k hk;omega)).setCell (p:=⟨sb,9,none⟩) d1.1 _,?_,hf.heap (hold _ _ d2.2.1 hM.hn) (by omega),hf.heap (hold _ _ d2.2.2.1 hM.hl) (by omega),hf.heap (hold _ _ d2.2.2.2.1 hM.ho) (by omega),hf.heap (hold _ _ d2.2.2.2.2 hM.hp) (by omega),Al hrn hf (fun q hq e=>by have:=(hrn.lt q hq).1;omega),?_,h.d,by have:=hg.size;have:=hM.hb;simp;omega⟩
 ·rw[Ac hs4];rfl
 ·have:=Al hown hf (fun k hk e=>by simp[Value.ownBlock]at hk;omega);rw[GY];exact this
end
theorem Tryz.info166:(Tryz.prog.info? 166).map (fun i=>(i.zero,i.size,i.bytes))=some (some (.agg #[.int .i64 0,.int .i64 0]),2,16):=by kernel_rfl
theorem XG {w wr:World} {gA gT:Value} {sa:Option Addr} {sl sc sb bn bl bo bp base n:Nat} {num low:Nat→Int} {on:Nat→Bool} {nodes:List Nat} {part:Nat→Int} {parts:Nat} {calls:List (Nat×Nat)} {nv cv:Value}
 (h:Ex w wr (.slice sa sl sc) gA gT sb bn bl bo bp base n num low on nodes part parts calls nv cv) (i seen si:Nat) (hi:i<n) (_hn:n≤1000000) (hsl:i<sl) (hS:∃b off,sa=some ⟨b,off,none⟩∧w.cell? ⟨b,off+i,none⟩=some (.int .i64 (si:Nat)))
 (h1:nodes.length≤1000000) (h2:calls.length≤1000000) (_h3:seen≤1000000):
 Calls Tryz.prog 117 #[.pointer (some ⟨sb,0,none⟩),.int .i64 (i:Nat),.int .i64 (seen:Nat)] wr fun e w'=>e=.returned (.tuple #[])∧
  ∃nv' cv',Ex w w' (.slice sa sl sc) gA gT sb bn bl bo bp base n (Bx num i seen) (Bx low i seen) (Bx on i true) (i::nodes) part parts ((i,si)::calls) nv' cv':=by
 obtain⟨i0,hi0,hz0,hz1,hz2⟩:=CE (Tryz.info3);obtain⟨j0,hj0,hw0,hw1,hw2⟩:=CE Tryz.info166;obtain⟨b,off,rfl,hS⟩:=hS;have HS:=Aa hS;have H:=Aa h;have c3:=h.cell 3 _ rfl;have c4:=h.cell 4 _ rfl;have n0:=Ab h.hn i _ (Bw _ i (by rw[AJ];exact hi));have l0:=Ab h.hl i _ (Bw _ i (by rw[AJ];exact hi));have fn:=Ag h.hn i;have fl:=Ag h.hl i;have hA:=h.setNum i seen;have hB:=h.setLow i seen;have l1:=Ab hA.hl i _ (Bw _ i (by rw[AJ];exact hi));have f1:=Ag hA.hl i;have n1:=Ab hB.hn i _ (Bw _ i (by rw[AJ];exact hi));have g1:=Ag hB.hn i;have HA:=Aa (hA.setLow i seen);have HB:=Aa (hB.setNum i seen);have i1:(i:Int)<(n:Int):=by omega
 clear h hS hA hB;generalize (BV n num).getD i 0=vn at*;generalize (BV n low).getD i 0=vl at*;go_enter Tryz.func117,Tryz.ntmps117;go_wp2_with fail
 go_cut [] (fun wx=>Ex w wx (.slice (some ⟨b,off,none⟩) sl sc) gA gT sb bn bl bo bp base n (Bx num i seen) (Bx low i seen) on nodes part parts calls nv cv)
 case first=>
  go_region
  all_goals go_wp2_with fail
  all_goals go_meet
  all_goals first
   | exact HA.out.drew
   | exact HB.out.drew
 case rest=>
  clear HA HB H c3 c4 n0 l0 fn fl l1 f1 n1 g1;have c5:=hcut.cell 5 _ rfl;have o0:=Ab hcut.ho i _ (Co _ i (by rw[AJ];exact hi));have fo:=Ag hcut.ho i;have h5:=hcut.setOn i true;have c6:=h5.cell 6 _ rfl;have hsz:=h5.hb;have hrn:=h5.rn;obtain⟨m,hm⟩:∃m,nodes.length=m:=⟨_,rfl⟩;obtain⟨q,hq⟩:∃q,calls.length=q:=⟨_,rfl⟩;rw[hm]at h1 hrn;rw[hq]at h2;have HM:=Aa hm;have HQ:=Aa hq;have H5:=Aa h5;have RN:=Aa hrn;rw[World.size_setCell]at hsz;clear hcut h5 hm hq hrn;generalize (BV n on).getD i false=vo at*;go_wp2_with (at_builtin;refine wpList_append_lies ((wc.setCell ⟨bo,i,none⟩ (.bool true)).alloc (.cells #[.int .i64 i] 3)) rfl (.tmp 30) (.tmp 32) 22 rfl base 3 i0 (.int .i64 0) 1 8 Tryz.underlying22 hi0 hz0 hz1 hz2 rfl (by decide) nv m (Xi nodes) rfl (RN.out.alloc _) ⟨wc.heap.size,0,none⟩ 1 1 [.int .i64 i] rfl rfl (World.news_of_block (AG _ _ _ (by simp))) (by simp[Value.oneCell']) (by omega) (by unfold maxLen;omega) (by omega) (by simp;omega) (wc.heap.size+1) (by simp) ?_;intro g2 cap2 w4 hown2 hgr2 hor2 hlt2;obtain⟨q0,q1,q2⟩:=H5.out.pushNode i m HM.out (Ae _ (.cells #[.int .i64 i] 3)) hgr2 (by simpa using hor2) hown2;have Q:=Aa q2;have c9:=q2.cell 9 _ rfl;have c0:=q2.cell 0 _ rfl;have s0:=Af q2.below HS.out;have hb9:=q2.hb;have RC:=Aa q2.rc;clear q2 hgr2 hown2 hor2)
  generalize World.setCell w4 _ _=w5 at*;obtain⟨e9,e0,t0⟩:=JN (Ae w5 (.cells #[.int .i64 i,.int .i64 si] 166)) c9 c0 s0;have RCQ:Hid (w5.ownsRow base 166 2 cv q (UO calls)):=Aa (by have:=RC.out;rw[HQ.out]at this;exact this);have M1:Hid (q+1≤maxLen):=Aa (by unfold maxLen;omega);have M2:Hid ((q+1)*16≤140737488355328):=Aa (by omega);have i2:(i:Int)<(sl:Int):=by omega
  clear RC c5 o0 fo c6 q0 q1
  go_region_law (refine step_append_lies ((w5.alloc (.cells #[.int .i64 i,.int .i64 si] 166)).drew) rfl (.tmp 40) (.tmp 51) 155 rfl base 166 j0 (.agg #[.int .i64 0,.int .i64 0]) 2 16 Tryz.underlying155 hj0 hw0 hw1 hw2 rfl (by decide) cv q (UO calls) (by simp[Act.eval]) (RCQ.out.alloc _) ⟨w5.heap.size,0,none⟩ 1 1 [.int .i64 i,.int .i64 si] (by simp[Act.eval]) rfl (World.news_of_block (Ar w5 _)) (by simp[Value.oneCell']) Nat.one_pos M1.out M2.out (by simp;omega) (w5.heap.size+1) (by simp) ?_;intro g3 cap3 w6 hown3 hgr3 hor3 hlt3;obtain⟨q0,q1,q2⟩:=Q.out.pushCall i si q HQ.out (Ae w5 (.cells #[.int .i64 i,.int .i64 si] 166)).drew hgr3 (by simpa using hor3) hown3;have Q6:=Aa q2;clear q2 hgr3 hown3 hor3)
  all_goals go_wp2_with fail
  all_goals go_end0
  all_goals exact⟨rfl,_,_,Q6.out⟩
section
variable {w wr:World} {gS gA gT:Value} {sb bn bl bo bp base n:Nat} {num low:Nat→Int} {on:Nat→Bool} {nodes:List Nat} {part:Nat→Int} {parts:Nat} {calls:List (Nat×Nat)} {nv cv:Value}
theorem Ex.popNode{x:Nat}(h:Ex w wr gS gA gT sb bn bl bo bp base n num low on (x::nodes) part parts calls nv cv):
 ∃g cap,nv=.slice (some ⟨g,0,none⟩) (nodes.length+1) cap∧base≤g∧nodes.length+1≤cap∧cap≤maxLen∧wr.cell? ⟨g,nodes.length,none⟩=some (.int .i64 (x:Nat))∧
  Ex w (wr.setCell ⟨sb,6,none⟩ (.slice (some ⟨g,0,none⟩) nodes.length cap)) gS gA gT sb bn bl bo bp base n num low on nodes part parts calls (.slice (some ⟨g,0,none⟩) nodes.length cap) cv:=by
 obtain⟨hl,h2⟩:=h.rn;rcases h2 with⟨-,h0⟩ | ⟨g,cap,cur,rfl,hb,hg,hn,hc,hs,ht⟩
 ·simp at h0
 have hlen:(x::nodes).length=nodes.length+1:=rfl;rw[hlen]at hn ht ⊢;obtain⟨d1,d2,d3⟩:=h.d;have hf:Bn (fun q=>q=sb) wr (wr.setCell ⟨sb,6,none⟩ (.slice (some ⟨g,0,none⟩) nodes.length cap)):=(Bn.refl (fun q=>q=sb) wr).setCell (p:=⟨sb,6,none⟩) (fun _=>rfl) _;refine⟨g,cap,rfl,hb,hn,hc,?_,?_⟩
 ·refine Ab hg _ _ ?_;have e:(Xi (x::nodes))[nodes.length]?=some (.int .i64 (x:Nat)):=by
   rw[NL,List.getElem?_append_right (by rw[Kq];exact AQ _),Kq];simp
  rw[← ht,List.getElem?_take,if_pos (by omega)]at e;simpa using e
 ·refine⟨h.below.setCell (p:=⟨sb,6,none⟩) d1.1 _,?_,hf.heap h.hn (by omega),hf.heap h.hl (by omega),hf.heap h.ho (by omega),hf.heap h.hp (by omega),⟨by rw[Kq];omega,.inr ⟨g,cap,cur,rfl,hb,hf.heap hg (by omega),by omega,hc,hs,?_⟩⟩,Al h.rc hf (fun q hq e=>by have:=(h.rc.lt q hq).1;omega),h.d,by simpa using h.hb⟩
  ·rw[Ac h.hs];rfl
  ·have e:(Xi (x::nodes)).take nodes.length=Xi nodes:=by
    rw[NL,List.take_append_of_le_length (by rw[Kq];exact AQ _),List.take_of_length_le (by rw[Kq];exact AQ _)]
   rw[← e,← ht,List.take_take]
   congr 1
   omega
end
def JO(on:Nat→Bool)(p:List Nat):Nat→Bool:=fun x=>if x∈p then false else on x
def Gj(part:Nat→Int)(m:Nat)(p:List Nat):Nat→Int:=fun x=>if x∈p then(m:Int) else part x
theorem RJ(on:Nat→Bool)(p:List Nat)(x:Nat):Bx (JO on p) x false=JO on (p++[x]):=by
 funext y
 by_cases e:y=x
 ·subst e;rw[AS];simp[JO]
 ·rw[AE _ _ _ _ e];simp[JO,e]
theorem Qc(part:Nat→Int)(m:Nat)(p:List Nat)(x:Nat):Bx (Gj part m p) x m=Gj part m (p++[x]):=by
 funext y
 by_cases e:y=x
 ·subst e;rw[AS];simp[Gj]
 ·rw[AE _ _ _ _ e];simp[Gj,e]
theorem Sw {w wr:World} {gS gA gT:Value} {sb bn bl bo bp base n:Nat} {num low:Nat→Int} {on:Nat→Bool} {part:Nat→Int} {parts:Nat} {calls:List (Nat×Nat)} {nv cv:Value} {pre suf:List Nat} {i:Nat}
 (h:Ex w wr gS gA gT sb bn bl bo bp base n num low on (pre++i::suf) part parts calls nv cv) (hlt:∀x∈pre++i::suf,x<n) (hi:i∉pre) (hlen:(pre++i::suf).length≤1000000) (hp:parts≤1000000):
 Calls Tryz.prog 118 #[.pointer (some ⟨sb,0,none⟩),.int .i64 (i:Nat)] wr fun e w'=>e=.returned (.tuple #[])∧
  ∃nv',Ex w w' gS gA gT sb bn bl bo bp base n num low (JO on (pre++[i])) suf (Gj part parts (pre++[i])) (parts+1) calls nv' cv:=by
 have H:=Aa h;have HL:=Aa hlt;clear h hlt;go_enter Tryz.func118,Tryz.ntmps118;go_wp2_with fail
 go_loopg [4,5] pre.length (fun fu _ _ wr=>∃(p q:List Nat) (nv':Value),q.length=fu∧Hid (p++q=pre)∧Ex w wr gS gA gT sb bn bl bo bp base n num low (JO on p) (q++i::suf) (Gj part parts p) parts calls nv' cv)
 case atStart=>
  have e1:JO on []=on:=by funext y;simp[JO]
  have e2:Gj part parts []=part:=by funext y;simp[Gj]
  exact⟨[],pre,nv,rfl,Aa rfl,by rw[e1,e2];exact H.out⟩
 case round=>
  clear H;obtain⟨p,q,nv',hq,hpq,hS⟩:=hrel;obtain⟨x,rem,hrem⟩:∃x rem,q++i::suf=x::rem:=by
   rcases q with _ | ⟨a,q⟩
   ·exact⟨i,suf,rfl⟩
   ·exact⟨a,q++i::suf,rfl⟩
  have hx:x<n:=HL.out x (by rw[← hpq.out,List.append_assoc,hrem];simp);have hrl:rem.length≤1000000:=by
   have e:=congrArg List.length hrem;have e2:=congrArg List.length hpq.out;simp at e e2 hlen;omega
  rw[hrem]at hS;have c6:=hS.cell 6 _ rfl;have f6:=hS.free 6;obtain⟨g,cap,rfl,p2,p3,p4,p5,p6⟩:=hS.popNode;obtain⟨m,hm⟩:∃m,rem.length=m:=⟨_,rfl⟩;have HRM:=Aa hrem;rw[hm]at c6 p3 p5 p6 hrl;have HM:=Aa hm;have c5:=p6.cell 5 _ rfl;have o0:=Ab p6.ho x _ (Co _ x (by rw[AJ];exact hx));have fo:=Ag p6.ho x;have h7:=p6.setOn x false;have c7:=h7.cell 7 _ rfl;have c8:=h7.cell 8 _ rfl;have q0:=Ab h7.hp x _ (Bw _ x (by rw[AJ];exact hx));have fq:=Ag h7.hp x;have h8:=h7.setPart x parts;have H8:=Aa (by have:=h8;rw[RJ,Qc]at this;exact this);have k8:=h8.cell 8 _ rfl;have fk:=h8.free 8;have H9:=Aa (by have:=h8.setParts (parts+1);rw[RJ,Qc]at this;exact this);have i1:(x:Int)<(n:Int):=by omega
  have i2:m<cap:=by omega
  have i3:m≤cap:=by omega
  unfold maxLen at p4;clear hS p6 h7 h8 hrem hm;generalize (BV n (JO on p)).getD x false=vo at*;generalize (BV n (Gj part parts p)).getD x 0=vq at*;by_cases hxi:x=i
  ·subst hxi;have hq0:q=[]:=by
    rcases q with _ | ⟨a,q⟩
    ·rfl
    ·exfalso;have:=HRM.out;simp at this;apply hi;rw[← hpq.out,this.1];simp
   have hsuf:rem=suf:=by have:=HRM.out;rw[hq0]at this;simpa using this.symm
   have HP:Hid (p=pre):=Aa (by have:=hpq.out;rw[hq0]at this;simpa using this);have HSF:=Aa hsuf;clear hsuf hq0 hq;go_wp2_with fail
   refine Bo 10 (by kernel_rfl) (by kernel_rfl) ?_;simp only[List.take_succ_cons,List.take_zero,List.drop_succ_cons,List.drop_zero];repeat still_step
   refine wpStill_nil ?_;go_wp2_with fail
   go_end0
   have q9:=H9.out.drew;have e1:=HP.out;have e2:=HSF.out;subst e1 e2;exact⟨rfl,_,q9⟩
  ·go_wp2_with fail
   refine Bo 10 (by kernel_rfl) (by kernel_rfl) ?_;simp only[List.take_succ_cons,List.take_zero,List.drop_succ_cons,List.drop_zero];repeat still_step
   refine wpStill_nil ?_;go_wp2_with fail
   rcases q with _ | ⟨a,q⟩
   ·exact absurd (by have:=HRM.out;simp at this;exact this.1.symm) hxi
   ·have hr:=HRM.out;simp at hr hq;obtain⟨rfl,rfl⟩:=hr;go_roundg (gk - 1)
    ·exact⟨p++[a],q,_,by omega,Aa (by rw[← hpq.out];simp),H8.out.drew⟩
    ·omega
def Db(n:Nat)(num:Nat→Int):Nat:=(List.range n).countP (fun x=>decide (num x=-1))
theorem Fo(n:Nat)(num:Nat→Int):Db (n+1) num=Db n num+if num n=-1 then 1 else 0:=by
 unfold Db;rw[List.range_succ,List.countP_append];simp[List.countP_cons]
theorem LX{num num':Nat→Int}:∀n,(∀x,x<n→num x=num' x)→Db n num=Db n num'
 | 0,_=>rfl
 | n+1,h=>by rw[Fo,Fo,LX n (fun x hx=>h x (by omega)),h n (by omega)]
theorem JX{num:Nat→Int}{x:Nat}{v:Int}(hx:num x=-1)(hv:v≠-1):∀n,x<n→Db n (Bx num x v)+1=Db n num
 | 0,h=>by omega
 | n+1,h=>by
  rw[Fo,Fo];by_cases e:x=n
  ·subst e;rw[AS,if_neg hv,if_pos hx,LX x (fun y hy=>AE num x y v (by omega))]
  ·rw[AE _ _ _ _ (Ne.symm e)];have:=JX hx hv n (by omega);omega
theorem MP{α:Type}{f:α→Int}:∀(l:List α) (m:Nat),l.Pairwise (fun a b=>f b<f a)→(∀x∈l,0≤f x∧f x<(m:Int))→l.length≤m
 | [],m,_,_=>Nat.zero_le _
 | x::l,m,h,hb=>by
  rw[BG]at h;have h0:=hb x (List.mem_cons_self ..);have:=MP l (f x).toNat h.2 (fun y hy=>⟨(hb y (List.mem_cons_of_mem _ hy)).1,by have:=h.1 y hy;omega⟩);rw[List.length_cons];omega
structure AX(G:TG)(num0:Nat→Int)(s:TS):Prop where
 inv:Gm G s
 c1:s.seen+Db G.n s.num=G.n
 c2:s.parts+s.nodes.length≤s.seen
 keep:∀x,0≤num0 x→0≤s.num x
section
variable {G:TG} {num0:Nat→Int} {s:TS}
theorem AX.lens(h:AX G num0 s):s.nodes.length≤G.n∧s.calls.length≤G.n∧s.seen≤G.n∧s.parts≤G.n:=by
 have c1:=h.c1;have c2:=h.c2;have hm:∀x,s.on x=true→0≤s.num x∧s.num x<(s.seen:Int):=fun x hx=>⟨h.inv.onSeen x hx,(h.inv.seenOf (h.inv.onSeen x hx)).1⟩;have h2:=MP (f:=fun c:Nat×Nat=>s.num c.1) s.calls s.seen h.inv.csorted (fun c hc=>hm c.1 (h.inv.callsOn c hc));omega
theorem AX.nodesLt(h:AX G num0 s):∀x∈s.nodes,x<G.n:=fun x hx=>(h.inv.seenOf (h.inv.onSeen x ((h.inv.onNodes x).2 hx))).2
theorem AX.topPth(h:AX G num0 s){i nx:Nat}{rest:List (Nat×Nat)}(hc:s.calls=(i,nx)::rest):∀c∈s.calls,Io G.E c.1 i:=by
 intro c hcm;have ho:=h.inv.callsOn (i,nx) (by rw[hc];simp);refine h.inv.chain c hcm i ho ?_;have hs:=h.inv.csorted;rw[hc]at hcm hs;rcases Br.1 hcm with rfl | q
 ·exact Int.le_refl _
 ·exact Int.le_of_lt ((BG.1 hs).1 c q)
theorem AX.top(h:AX G num0 s){i nx:Nat}{rest:List (Nat×Nat)}(hc:s.calls=(i,nx)::rest):i<G.n∧s.on i=true∧0≤s.num i∧G.S i≤nx∧nx≤G.S (i+1):=by
 have hm:(i,nx)∈s.calls:=by rw[hc];simp
 have ho:=h.inv.callsOn _ hm;have h0:=h.inv.onSeen _ ho;exact⟨(h.inv.seenOf h0).2,ho,h0,h.inv.next _ hm⟩
theorem AX.edge(h:AX G num0 s){i nx:Nat}{rest:List (Nat×Nat)}(hc:s.calls=(i,nx)::rest)(hl:nx<G.S (i+1)):G.E i (G.T nx)∧G.T nx<G.n:=by
 have ht:=h.top hc;exact⟨⟨ht.1,nx,ht.2.2.2.1,hl,rfl⟩,G.hT i nx ht.1 ht.2.2.2.1 hl⟩
theorem AX.stepSee(h:AX G num0 s){i nx:Nat}{rest:List (Nat×Nat)}(hc:s.calls=(i,nx)::rest)(hl:nx<G.S (i+1))(hs:s.num (G.T nx)=-1):
 AX G num0 {s with num:=Bx s.num (G.T nx) s.seen,low:=Bx s.low (G.T nx) s.seen,on:=Bx s.on (G.T nx) true,nodes:=G.T nx::s.nodes,calls:=(G.T nx,G.S (G.T nx))::(i,nx+1)::rest,seen:=s.seen+1}∧
  Db G.n (Bx s.num (G.T nx) s.seen)+1=Db G.n s.num:=by
 obtain⟨he,ht⟩:=h.edge hc hl;have hi:=h.top hc;have hne:i≠G.T nx:=fun e=>by rw[← e]at hs;omega
 have a:=h.inv.see hs ht (fun c hcm=>(h.topPth hc c hcm).step he);have b:=a.advance (pre:=[(G.T nx,G.S (G.T nx))]) (i:=i) (nx:=nx) (rest:=rest) (by simp[ON,hc]) hl (by show 0≤Bx s.num (G.T nx) _ (G.T nx);rw[AS];omega) (fun _=>by
  show Bx s.low (G.T nx) _ i≤Bx s.num (G.T nx) _ (G.T nx);rw[AS,AE _ _ _ _ hne];have:=h.inv.lowLe i hi.2.1;have:=(h.inv.seenOf hi.2.2.1).1;omega)
 have hu:=JX (v:=(s.seen:Int)) hs (by omega) G.n ht;refine⟨⟨b,?_,?_,?_⟩,hu⟩
 ·have:=h.c1;show s.seen+1+Db G.n (Bx s.num (G.T nx) s.seen)=G.n;omega
 ·have:=h.c2;show s.parts+(G.T nx::s.nodes).length≤s.seen+1;rw[List.length_cons];omega
 ·intro x hx;show 0≤Bx s.num (G.T nx) _ x;by_cases e:x=G.T nx
  ·rw[e,AS];omega
  ·rw[AE _ _ _ _ e];exact h.keep x hx
theorem AX.stepLow(h:AX G num0 s){i nx:Nat}{rest:List (Nat×Nat)}(hc:s.calls=(i,nx)::rest)(hl:nx<G.S (i+1))(ho:s.on (G.T nx)=true):
 AX G num0 {s with low:=Bx s.low i (min (s.low i) (s.num (G.T nx))),calls:=(i,nx+1)::rest}:=by
 obtain⟨he,ht⟩:=h.edge hc hl;have a:=h.inv.lowUpd (x:=i) (y:=G.T nx) ⟨(i,nx),by rw[hc];simp,rfl⟩ ho (.one he);have b:=a.advance (pre:=[]) (i:=i) (nx:=nx) (rest:=rest) (by simp[hc]) hl (h.inv.onSeen _ ho) (fun _=>by
  show Bx s.low i _ i≤s.num (G.T nx);rw[AS];omega)
 exact⟨b,h.c1,h.c2,h.keep⟩
theorem AX.stepSkip(h:AX G num0 s){i nx:Nat}{rest:List (Nat×Nat)}(hc:s.calls=(i,nx)::rest)(hl:nx<G.S (i+1))(hs:s.num (G.T nx)≠-1)(ho:s.on (G.T nx)=false):
 AX G num0 {s with calls:=(i,nx+1)::rest}:=by
 have b:=h.inv.advance (pre:=[]) (i:=i) (nx:=nx) (rest:=rest) (by simp[hc]) hl (by rcases h.inv.numLt (G.T nx) with e | e;exact absurd e hs;exact e.1) (fun e=>by rw[ho]at e;cases e);exact⟨b,h.c1,h.c2,h.keep⟩
theorem AX.stepPop(h:AX G num0 s){i nx u nu:Nat}{rest:List (Nat×Nat)}(hc:s.calls=(i,nx)::(u,nu)::rest)(hnx:nx=G.S (i+1))(hne:s.low i≠s.num i):
 AX G num0 {s with low:=Bx s.low u (min (s.low u) (s.low i)),calls:=(u,nu)::rest}:=by
 have hi:=h.top hc;have hcs:=h.inv.csorted;rw[hc]at hcs;have hui:s.num u<s.num i:=(BG.1 hcs).1 (u,nu) (by simp);have hpu:Io G.E u i:=h.topPth hc (u,nu) (by rw[hc];simp);obtain⟨y,y1,y2,y3⟩:=h.inv.lowIs i hi.2.1;have a:=h.inv.lowUpd (x:=u) (y:=y) ⟨(u,nu),by rw[hc];simp,rfl⟩ y1 (hpu.trans y3);rw[y2]at a;have e1:Bx s.low u (min (s.low u) (s.low i)) i=s.low i:=AE _ _ _ _ (fun e=>by rw[e]at hui;omega);have e2:Bx s.low u (min (s.low u) (s.low i)) u=min (s.low u) (s.low i):=AS _ _ _;have hle:=h.inv.lowLe i hi.2.1;have b:=a.pop (i:=i) (nx:=nx) (u:=u) (nu:=nu) (rest:=rest) hc hnx (by
  show Bx s.low u _ i<s.num i;rw[e1];omega) (by
  show Bx s.low u _ u≤Bx s.low u _ i;rw[e1,e2];omega)
 exact⟨b,h.c1,h.c2,h.keep⟩
theorem AX.split(h:AX G num0 s){i nx:Nat}{rest:List (Nat×Nat)}(hc:s.calls=(i,nx)::rest):∃pre suf,s.nodes=pre++i::suf∧i∉pre:=by
 obtain⟨pre,suf,e⟩:=List.append_of_mem ((h.inv.onNodes i).1 (h.top hc).2.1);refine⟨pre,suf,e,fun hm=>?_⟩;have hs:=h.inv.sorted;rw[e]at hs;have:=(List.pairwise_append.1 hs).2.2 i hm i (by simp);omega
theorem AX.offEq(h:AX G num0 s){i:Nat}{pre suf:List Nat}(hn:s.nodes=pre++i::suf)(x:Nat):x∈pre++[i]↔s.on x=true∧s.num i≤s.num x:=by
 have hs:=h.inv.sorted;rw[hn]at hs;have h3:=List.pairwise_append.1 hs;constructor
 ·intro hx;refine⟨(h.inv.onNodes x).2 (by rw[hn];simp at hx ⊢;rcases hx with q | q;exact .inl q;exact .inr (.inl q)),?_⟩;rcases CJ.1 hx with q | q
  ·exact Int.le_of_lt (h3.2.2 x q i (by simp))
  ·rw[Ds.1 q];exact Int.le_refl _
 ·rintro⟨ho,hle⟩;have hm:=(h.inv.onNodes x).1 ho;rw[hn]at hm;rcases CJ.1 hm with q | q
  ·exact List.mem_append_left _ q
  ·rcases Br.1 q with q | q
   ·rw[q];simp
   ·have:=(BG.1 h3.2.1).1 x q;omega
theorem AX.closeEq(h:AX G num0 s){i:Nat}{pre suf:List Nat}{rest:List (Nat×Nat)}(hn:s.nodes=pre++i::suf):
 QF s i suf rest={s with on:=JO s.on (pre++[i]),nodes:=suf,part:=Gj s.part s.parts (pre++[i]),parts:=s.parts+1,calls:=rest}:=by
 have e1:(fun x=>s.on x&&decide (s.num x<s.num i))=JO s.on (pre++[i]):=by
  funext x
  unfold JO;by_cases hx:x∈pre++[i]
  ·rw[if_pos hx];have:=(h.offEq hn x).1 hx;rw[this.1];simp;omega
  ·rw[if_neg hx];cases ho:s.on x
   ·rfl
   ·have:¬s.num i≤s.num x:=fun hle=>hx ((h.offEq hn x).2 ⟨ho,hle⟩);simp;omega
 have e2:(fun x=>if s.on x=true∧s.num i≤s.num x then(s.parts:Int) else s.part x)=Gj s.part s.parts (pre++[i]):=by
  funext x
  unfold Gj;by_cases hx:x∈pre++[i]
  ·rw[if_pos hx,if_pos ((h.offEq hn x).1 hx)]
  ·rw[if_neg hx,if_neg (fun q=>hx ((h.offEq hn x).2 q))]
 unfold QF;rw[e1,e2]
theorem AX.stepClose(h:AX G num0 s){i nx:Nat}{rest:List (Nat×Nat)}(hc:s.calls=(i,nx)::rest)(hnx:nx=G.S (i+1))(hl:s.low i=s.num i){pre suf:List Nat}(hn:s.nodes=pre++i::suf):
 AX G num0 {s with on:=JO s.on (pre++[i]),nodes:=suf,part:=Gj s.part s.parts (pre++[i]),parts:=s.parts+1,calls:=rest}:=by
 have a:=h.inv.close hc hnx hl hn;rw[h.closeEq hn]at a;refine⟨a,h.c1,?_,h.keep⟩;have:=h.c2;rw[hn]at this;simp at this;show s.parts+1+suf.length≤s.seen;omega
theorem AX.closeUp(h:AX G num0 s){i nx u nu:Nat}{rest:List (Nat×Nat)}(hc:s.calls=(i,nx)::(u,nu)::rest)(hl:s.low i=s.num i):Bx s.low u (min (s.low u) (s.low i))=s.low:=by
 have hcs:=h.inv.csorted;rw[hc]at hcs;have hui:s.num u<s.num i:=(BG.1 hcs).1 (u,nu) (by simp);have hu:=h.inv.lowLe u (h.inv.callsOn (u,nu) (by rw[hc];simp))
 funext x
 by_cases e:x=u
 ·rw[e,AS,hl];omega
 ·exact AE _ _ _ _ e
theorem AX.last(h:AX G num0 s){i nx:Nat}(hc:s.calls=[(i,nx)]):s.low i=s.num i:=h.inv.last hc
theorem AX.off(h:AX G num0 s)(hc:s.calls=[])(x:Nat):s.on x=false:=by
 cases e:s.on x
 ·rfl
 ·obtain⟨c,hcm,-⟩:=h.inv.bottom x e;rw[hc]at hcm;cases hcm
theorem AX.start(h:AX G num0 s)(hc:s.calls=[]){x:Nat}(hx:s.num x=-1)(hn:x<G.n):
 AX G num0 (ON G s x):=by
 have a:=h.inv.see hx hn (fun c hcm=>by rw[hc]at hcm;cases hcm);have hu:=JX (v:=(s.seen:Int)) hx (by omega) G.n hn;refine⟨a,?_,?_,?_⟩
 ·have:=h.c1;show s.seen+1+Db G.n (Bx s.num x s.seen)=G.n;omega
 ·have:=h.c2;show s.parts+(x::s.nodes).length≤s.seen+1;rw[List.length_cons];omega
 ·intro y hy;show 0≤Bx s.num x _ y;by_cases e:y=x
  ·rw[e,AS];omega
  ·rw[AE _ _ _ _ e];exact h.keep y hy
end
theorem Ym(p:Nat→Prop)(h:∃m,p m):∃m,p m∧∀k,p k→m≤k:=by
 obtain⟨m,hm⟩:=h
 induction m using Nat.strongRecOn with
 | _ m ih=>
  by_cases e:∃k,k<m∧p k
  ·obtain⟨k,hk,hp⟩:=e;exact ih k hk hp
  ·exact⟨m,hm,fun k hk=>Nat.le_of_not_lt fun hlt=>e ⟨k,hlt,hk⟩⟩
open Classical in
noncomputable def Oc(p:Nat→Prop):Nat:=if h:∃m,p m then Classical.choose (Ym p h) else 0
theorem IZ{p:Nat→Prop}(h:∃m,p m):p (Oc p)∧∀k,p k→Oc p≤k:=by
 unfold Oc;rw[dif_pos h];exact Classical.choose_spec (Ym p h)
theorem Pa {P:Program} {a:Act} {w:World} {Q:Exit→Act→World→Prop} {c rest:Code} (l:Nat) (J:Nat→Act→World→Prop) (hf:findLabel c l=some rest)
 (first:c.wp P (Exit.jump l (fun a w=>∃m,J m a w) Q) a w)
 (pass:∀m a w,J m a w→rest.wp P (Exit.jump l (fun a' w'=>∃m',m'<m∧J m' a' w') Q) a w):(Code.scope c).wp P Q a w:=by
 refine wp_scope_jumps l (fun a w=>∃m,J m a w) (fun a w=>Oc (fun m=>J m a w)) hf first ?_
 intro a w hJ;refine Code.wp_mono ?_ (pass _ a w (IZ hJ).1);intro e a' w' he;cases e <;> try exact he
 obtain⟨rfl,m',hlt,hJ'⟩:=he;exact⟨rfl,⟨m',hJ'⟩,Nat.lt_of_le_of_lt ((IZ ⟨m',hJ'⟩).2 _ hJ') hlt⟩
theorem Nc {P:Program} {a:Act} {w:World} {Q:Exit→Act→World→Prop} {c rest:Code} (l:Nat) (J:Nat→Act→World→Prop) (hf:findLabel c l=some (Code.skip.seq rest))
 (pass:∀m a w,J m a w→rest.wp P (Exit.jump l (fun a' w'=>∃m',m'<m∧J m' a' w') Q) a w)
 (first:(∀m a w,J m a w→rest.wp P (Exit.jump l (fun a w=>∃m,J m a w) Q) a w)→c.wp P (Exit.jump l (fun a w=>∃m,J m a w) Q) a w):(Code.scope c).wp P Q a w:=by
 refine Pa l J hf (first fun m a w h=>?_) (fun m a w h=>wp_seq (wp_skip (pass m a w h)));refine Code.wp_mono ?_ (pass m a w h);intro e a' w' he;cases e <;> try exact he
 exact⟨he.1,he.2.choose,he.2.choose_spec.2⟩
theorem AI {P:Program} {id:Nat} {Q:Exit→Act→World→Prop} {a:Act} {w:World} {l:List Oper} (hm:P.follows .mixedOrders=true) (hB:Region.lexB .any l.toArray=true)
 (h:wpStill P l.toArray w.drew (fun a'=>Q .normal a' w.drew) l a):(Code.region id l.toArray true).wp P Q a w:=wp_region_still_lit hm hB h
theorem bO(l:List (Nat×Nat))(c:Nat×Nat):(UO (c::l))[l.length*2]?=some (.int .i64 (c.1:Nat))∧(UO (c::l))[l.length*2+1]?=some (.int .i64 (c.2:Nat)):=by
 rw[GY];constructor
 ·rw[List.getElem?_append_right (by rw[Ew];omega),Ew];simp
 ·rw[List.getElem?_append_right (by rw[Ew];omega),Ew];simp
section
variable {w wr:World} {gS gA gT:Value} {sb bn bl bo bp base n:Nat} {num low:Nat→Int} {on:Nat→Bool} {nodes:List Nat} {part:Nat→Int} {parts:Nat} {calls:List (Nat×Nat)} {nv cv:Value}
theorem Ex.topCall{x y:Nat}(h:Ex w wr gS gA gT sb bn bl bo bp base n num low on nodes part parts ((x,y)::calls) nv cv):
 ∃g cap,cv=.slice (some ⟨g,0,none⟩) (calls.length+1) cap∧calls.length+1≤cap∧cap≤maxLen∧wr.cell? ⟨g,calls.length*2,none⟩=some (.int .i64 (x:Nat))∧wr.cell? ⟨g,calls.length*2+1,none⟩=some (.int .i64 (y:Nat))∧(∀i,wr.frozen? ⟨g,i,none⟩=false)∧
  (∀z:Nat,Ex w (wr.setCell ⟨g,calls.length*2+1,none⟩ (.int .i64 (z:Nat))) gS gA gT sb bn bl bo bp base n num low on nodes part parts ((x,z)::calls) nv cv)∧
  Ex w (wr.setCell ⟨sb,9,none⟩ (.slice (some ⟨g,0,none⟩) calls.length cap)) gS gA gT sb bn bl bo bp base n num low on nodes part parts calls nv (.slice (some ⟨g,0,none⟩) calls.length cap):=by
 obtain⟨hl,h2⟩:=h.rc;rcases h2 with⟨-,h0⟩ | ⟨g,cap,cur,rfl,hb,hg,hn,hc,hs,ht⟩
 ·simp at h0
 have hlen:((x,y)::calls).length=calls.length+1:=rfl;rw[hlen]at hn ht ⊢;obtain⟨d1,d2,d3⟩:=h.d;have hbs:=h.hb;obtain⟨e1,e2⟩:=bO calls (x,y);have hsz:calls.length*2+1<cur.size:=by rw[hs];omega
 refine⟨g,cap,rfl,hn,hc,?_,?_,fun i=>Ag hg i,fun z=>?_,?_⟩
 ·refine Ab hg _ _ ?_;rw[← ht,List.getElem?_take,if_pos (by omega)]at e1;simpa using e1
 ·refine Ab hg _ _ ?_;rw[← ht,List.getElem?_take,if_pos (by omega)]at e2;simpa using e2
 ·have hf:Bn (fun q=>q=g) wr (wr.setCell ⟨g,calls.length*2+1,none⟩ (.int .i64 (z:Nat))):=(Bn.refl (fun q=>q=g) wr).setCell (p:=⟨g,calls.length*2+1,none⟩) (fun _=>rfl) _;refine⟨h.below.setCell (p:=⟨g,calls.length*2+1,none⟩) (show w.heap.size≤g by omega) _,hf.heap h.hs (by omega),hf.heap h.hn (by omega),hf.heap h.hl (by omega),hf.heap h.ho (by omega),hf.heap h.hp (by omega),?_,⟨by rw[Ew],.inr ⟨g,cap,cur.setIfInBounds (calls.length*2+1) (.int .i64 (z:Nat)),rfl,hb,?_,hn,hc,by simpa using hs,?_⟩⟩,h.d,by simpa using h.hb⟩
  ·refine Al h.rn hf (fun q hq e=>?_);subst e;rcases h.rn.2 with⟨rfl,-⟩ | ⟨g3,cap3,cur3,rfl,-,hg3,-⟩
   ·simp[Value.ownBlock]at hq
   ·simp[Value.ownBlock]at hq;subst hq;rw[hg3]at hg;simp at hg
  ·rw[Ac hg]
  ·have e3:((cur.toList.take ((calls.length+1)*2)).set (calls.length*2+1) (.int .i64 (z:Nat)))=UO ((x,z)::calls):=by
    rw[ht,GY,GY,List.set_append_right _ _ (by rw[Ew];omega),Ew];have:calls.length*2+1 - calls.length*2=1:=by omega
    rw[this];rfl
   rw[← e3,Array.toList_setIfInBounds,List.take_set]
   rfl
 ·have hf:Bn (fun q=>q=sb) wr (wr.setCell ⟨sb,9,none⟩ (.slice (some ⟨g,0,none⟩) calls.length cap)):=(Bn.refl (fun q=>q=sb) wr).setCell (p:=⟨sb,9,none⟩) (fun _=>rfl) _;refine⟨h.below.setCell (p:=⟨sb,9,none⟩) d1.1 _,?_,hf.heap h.hn (by omega),hf.heap h.hl (by omega),hf.heap h.ho (by omega),hf.heap h.hp (by omega),Al h.rn hf (fun q hq e=>by have:=(h.rn.lt q hq).1;omega),⟨by rw[Ew],.inr ⟨g,cap,cur,rfl,hb,hf.heap hg (by omega),by omega,hc,hs,?_⟩⟩,h.d,by simpa using h.hb⟩
  ·rw[Ac h.hs];rfl
  ·have e:(UO ((x,y)::calls)).take (calls.length*2)=UO calls:=by
    rw[GY,List.take_append_of_le_length (by rw[Ew];exact AQ _),List.take_of_length_le (by rw[Ew];exact AQ _)]
   rw[← e,← ht,List.take_take]
   congr 1
   omega
end
end Go.Proofs.YtlhpjfnfemebdaaGreat
