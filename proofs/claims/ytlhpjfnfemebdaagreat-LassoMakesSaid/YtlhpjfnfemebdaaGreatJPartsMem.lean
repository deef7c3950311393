/- A region that draws its order and whose operations read old -/
import Derived.Test.YtlhpjfnfemebdaaGreatJBase
import Derived.Test.YtlhpjfnfemebdaaGreatRBuild
import Derived.Test.YtlhpjfnfemebdaaGreatJRowsM
import Derived.Deep.AppendSrc
import Derived.Test.YtlhpjfnfemebdaaGreatJRunMem
import Derived.Test.YtlhpjfnfemebdaaGreatOut
import Derived.Deep.RegionLaw
import Derived.Laws.EntriesVeiled
set_option maxRecDepth 100000
set_option maxHeartbeats 64000000
set_option linter.unusedSimpArgs false
namespace Go.Proofs.YtlhpjfnfemebdaaGreat
open Go.RowKit
def Dg(md:Region.Mode)(ops:Array Oper):Bool:=(List.range ops.size).all fun j=>((ops[j]?).map (fun o=>o.after.all fun e=>!Region.binds md e || decide (e.on<j))).getD true
def EE(md:Region.Mode)(ops:Array Oper)(j i:Nat):Bool:=((ops[j]?).map (fun o=>o.after.any fun e=>Region.binds md e&&(e.on==i))).getD false
section
variable {P:Program} {ops:Array Oper} {Q:Exit→Act→World→Prop} {md:Region.Mode}
def Nh(P:Program)(ops:Array Oper)(Q:Exit→Act→World→Prop)(md:Region.Mode)(mk:(Nat→Value)→Act)(d:Nat→Nat)(w0:World)(R:Nat→Value→World→Prop)(j:Nat)(o:Oper):Prop:=
 ∀f w,Below w0.heap.size w0 w→(∀i,EE md ops j i=true→R i (f (d i)) w)→
  ∀K:Act→World→Prop,(∀v w',Below w.heap.size w w'→R j v w'→K ((mk f).put (some (d j)) v) w')→
   if Region.wanted o (yielded ops (mk f).tmps)=true then Oper.wp P o (mk f) w K Q else K ((mk f).put o.dst undef) w
def OH(listed:Array Bool):Nat:=listed.toList.countP (fun b=>!b)
theorem Jh:∀(l:List Bool) (i:Nat),i<l.length→l.getD i true=false→(l.set i true).countP (fun b=>!b)+1=l.countP (fun b=>!b)
 | [],i,h,_=>by simp at h
 | b::l,0,_,h=>by
  have:b=false:=by simpa using h
  subst this;simp
 | b::l,i+1,h,h2=>by
  have:=Jh l i (by simpa using h) (by simpa using h2);simp only[List.set_cons_succ,List.countP_cons]at this ⊢;omega
theorem VX (mk:(Nat→Value)→Act) (d:Nat→Nat) (w0:World) (R:Nat→Value→World→Prop)
 (hR:∀i u w w',Below w.heap.size w w'→R i u w→R i u w')
 (hlex:Dg md ops=true) (hinj:∀i j,i<ops.size→j<ops.size→d i=d j→i=j)
 (hput:∀j,j<ops.size→∀f v,(mk f).put (some (d j)) v=mk (Bx f (d j) v))
 (hstep:∀j o,ops[j]?=some o→Nh P ops Q md mk d w0 R j o)
 (hend:∀f w,Below w0.heap.size w0 w→(∀j,j<ops.size→R j (f (d j)) w)→Q .normal (mk f) w):
 ∀(fuel:Nat) (listed:Array Bool) (f:Nat→Value) (w:World),listed.size=ops.size→OH listed≤fuel→Below w0.heap.size w0 w→
  (∀j,j<ops.size→listed.getD j true=true→R j (f (d j)) w)→wpAny P md ops Q fuel listed (mk f) w:=by
 have hdone:∀(listed:Array Bool) (f:Nat→Value) (w:World),listed.size=ops.size→Below w0.heap.size w0 w→(∀j,j<ops.size→listed.getD j true=true→R j (f (d j)) w)→Region.ready md ops listed=[]→Q .normal (mk f) w:=by
  intro listed f w hs hb hr h0;refine hend f w hb fun j hj=>hr j hj ?_;have key:∀j,j<ops.size→listed.getD j true=true:=by
   intro j
   induction j using Nat.strongRecOn with
   | _ j ih=>
    intro hj;cases hl:listed.getD j true with
    | true=>rfl
    | false=>
     exfalso;have hm:j∈Region.ready md ops listed:=by
      rw[mem_ready];refine⟨hl,ops[j],by simp[hj],fun e he hbd=>?_⟩;have hle:e.on<j:=by
       unfold Dg at hlex;have:=List.all_eq_true.1 hlex j (Cg.2 hj);simp only[Array.getElem?_eq_getElem hj,Option.map_some,Option.getD_some,Array.all_eq_true']at this;have:=this e he;simpa[hbd]using this
      have h1:=ih e.on hle (by omega);have hsz:e.on<listed.size:=by omega
      simpa[hsz]using h1
     rw[h0]at hm;cases hm
  exact key j hj
 intro fuel
 induction fuel with
 | zero=>
  intro listed f w hs hu hb hr;have h0:Region.ready md ops listed=[]:=by
   rw[List.eq_nil_iff_forall_not_mem];intro j hj;obtain⟨hl,o,ho,-⟩:=mem_ready.1 hj;have hjs:j<listed.size:=by rw[hs];exact(BO.1 ho).1
   have hpos:0<listed.toList.countP (fun b=>!b):=by
    rw[List.countP_pos_iff];refine⟨listed[j],by simp,?_⟩;simpa[hjs]using hl
   unfold OH at hu;omega
  exact⟨h0,hdone listed f w hs hb hr h0⟩
 | succ fuel ih=>
  intro listed f w hs hu hb hr;refine⟨hdone listed f w hs hb hr,fun i hi=>?_⟩;obtain⟨hl,o,ho,hall⟩:=mem_ready.1 hi;have his:i<ops.size:=(BO.1 ho).1;have hil:i<listed.size:=by omega
  have hdeps:∀k,EE md ops i k=true→R k (f (d k)) w:=by
   intro k hk;unfold EE at hk;simp only[ho,Option.map_some,Option.getD_some,Array.any_eq_true',Ci,beq_iff_eq]at hk;obtain⟨e,he,hbd,rfl⟩:=hk;have hlf:=hall e he hbd;have hlt:e.on<listed.size:=by
    rcases Nat.lt_or_ge e.on listed.size with h | h
    ·exact h
    ·simp[Array.getElem?_eq_none h]at hlf
   exact hr e.on (by omega) (by simpa[hlt]using hlf)
  have hk:=hstep i o ho f w hb hdeps (wpAny P md ops Q fuel (listed.setIfInBounds i true)) (by
   intro v w' hb' hv;rw[hput i his];refine ih _ _ _ (by simpa using hs) ?_ (hb.trans (hb'.mono hb.size)) ?_
   ·unfold OH at hu ⊢;have:=Jh listed.toList i (by simpa using hil) (by simpa[hil]using hl);rw[Array.toList_setIfInBounds];omega
   ·intro j hj hlj;by_cases e:j=i
    ·subst e;rw[AS];exact hv
    ·rw[AE _ _ _ _ (fun e2=>e (hinj j i hj his e2))];refine hR j _ w w' hb' (hr j hj ?_);rw[getD_set_ne true (fun e2=>e e2.symm)]at hlj;exact hlj)
  unfold wpOp;simp only[ho];split
  ·rename_i hw;rw[if_pos hw]at hk;exact .inl hk
  ·rename_i hw;rw[if_neg hw]at hk;exact hk
def Gv(P:Program)(ops:Array Oper)(Q:Exit→Act→World→Prop)(md:Region.Mode)(mk:(Nat→Value)→Act)(d:Nat→Nat)(w0:World)(R:Nat→Value→World→Prop):Nat→List Oper→Prop
 | _,[]=>True
 | k,o::l=>Nh P ops Q md mk d w0 R k o∧Gv P ops Q md mk d w0 R (k+1) l
theorem Gv.at{mk:(Nat→Value)→Act}{d:Nat→Nat}{w0:World}{R:Nat→Value→World→Prop}:∀(l:List Oper) (k:Nat),Gv P ops Q md mk d w0 R k l→∀j o,l[j]?=some o→Nh P ops Q md mk d w0 R (k+j) o
 | [],_,_,j,o,h=>by simp at h
 | x::l,k,h,0,o,ho=>by
  obtain rfl:x=o:=by simpa using ho
  exact h.1
 | x::l,k,h,j+1,o,ho=>by
  have:=Gv.at l (k+1) h.2 j o (by simpa using ho);rwa [show k+(j+1)=k+1+j by omega]
def XS(n:Nat)(d:Nat→Nat):Bool:=(List.range n).all fun i=>(List.range n).all fun j=>d i !=d j || i==j
theorem ER {id:Nat} {a:Act} {w:World} {l:List Oper} (f0:Nat→Value) (mk:(Nat→Value)→Act) (d:Nat→Nat) (R:Nat→Value→World→Prop) (ha:a=mk f0)
 (hm:P.follows .mixedOrders=true) (hR:∀i u w w',Below w.heap.size w w'→R i u w→R i u w')
 (hlex:Dg .any l.toArray=true) (hinj:XS l.length d=true)
 (hput:∀j,j<l.length→∀f v,(mk f).put (some (d j)) v=mk (Bx f (d j) v))
 (hstep:Gv P l.toArray Q .any mk d w.drew R 0 l)
 (hend:∀f w',Below w.heap.size w w'→(∀j,j<l.length→R j (f (d j)) w')→Q .normal (mk f) w'):(Code.region id l.toArray true).wp P Q a w:=by
 subst ha;refine wp_region_any hm ?_;have hb0:Below w.drew.heap.size w.drew w.drew:=Ak _ _;refine VX mk d w.drew R hR hlex ?_ (by simpa using hput) ?_ ?_ _ _ f0 w.drew (by simp) ?_ hb0 ?_
 ·intro i j hi hj e;have h1:=List.all_eq_true.1 hinj i (Cg.2 (by simpa using hi));have h2:=List.all_eq_true.1 h1 j (Cg.2 (by simpa using hj));simpa[e]using h2
 ·intro j o ho;have:=hstep.at l 0 j o (by simpa using ho);rwa [Nat.zero_add]at this
 ·intro f w' hb h;exact hend f w' ⟨hb.os,hb.tape,hb.output,hb.size,hb.block⟩ (by simpa using h)
 ·unfold OH;simp;exact CP List.countP_le_length (by simp)
 ·intro j hj hl;simp at hj;simp[hj]at hl
end
inductive RK
 | eq (x:Value)
 | edges (l:List Ed)
 | graph (g:Gr)
 | bools (l:List Bool)
 | ints (l:List Int)
def RK.rel:RK→Value→World→Prop
 | .eq x,v,_=>v=x
 | .edges l,v,w=>Ax w v l
 | .graph g,v,w=>Ao w v g
 | .bools l,v,w=>Bc w v l
 | .ints l,v,w=>Am w v l
theorem RK.mono(k:RK){v:Value}{w w':World}(hb:Below w.heap.size w w')(h:k.rel v w):k.rel v w':=by
 cases k with
 | eq x=>exact h
 | edges l=>exact Ax.below h hb
 | graph g=>exact Ao.below h hb
 | bools l=>exact Bc.below h hb
 | ints l=>exact Am.below h hb
def dS(ks:List RK)(j:Nat)(v:Value)(w:World):Prop:=(ks.getD j (.eq undef)).rel v w
section
variable {P:Program} {ops:Array Oper} {Q:Exit→Act→World→Prop} {md:Region.Mode}
def Qp(P:Program)(ops:Array Oper)(Q:Exit→Act→World→Prop)(md:Region.Mode)(mk:(Nat→Value)→Act)(d:Nat→Nat)(w0:World)(R:Nat→Value→World→Prop)(S:Nat→Nat→Value→Value→Prop)(j:Nat)(o:Oper):Prop:=
 ∀f w,Below w0.heap.size w0 w→(∀i,EE md ops j i=true→R i (f (d i)) w)→(∀i k,EE md ops j i=true→EE md ops j k=true→i≠k→S i k (f (d i)) (f (d k)))→
  ∀K:Act→World→Prop,(∀v w',Below w.heap.size w w'→R j v w'→(∀i u,i≠j→R i u w→S i j u v∧S j i v u)→K ((mk f).put (some (d j)) v) w')→
   if Region.wanted o (yielded ops (mk f).tmps)=true then Oper.wp P o (mk f) w K Q else K ((mk f).put o.dst undef) w
theorem TL (mk:(Nat→Value)→Act) (d:Nat→Nat) (w0:World) (R:Nat→Value→World→Prop) (S:Nat→Nat→Value→Value→Prop)
 (hR:∀i u w w',Below w.heap.size w w'→R i u w→R i u w')
 (hlex:Dg md ops=true) (hinj:∀i j,i<ops.size→j<ops.size→d i=d j→i=j)
 (hput:∀j,j<ops.size→∀f v,(mk f).put (some (d j)) v=mk (Bx f (d j) v))
 (hstep:∀j o,ops[j]?=some o→Qp P ops Q md mk d w0 R S j o)
 (hend:∀f w,Below w0.heap.size w0 w→(∀j,j<ops.size→R j (f (d j)) w)→(∀i j,i<ops.size→j<ops.size→i≠j→S i j (f (d i)) (f (d j)))→Q .normal (mk f) w):
 ∀(fuel:Nat) (listed:Array Bool) (f:Nat→Value) (w:World),listed.size=ops.size→OH listed≤fuel→Below w0.heap.size w0 w→
  (∀j,j<ops.size→listed.getD j true=true→R j (f (d j)) w)→(∀i j,i<ops.size→j<ops.size→i≠j→listed.getD i true=true→listed.getD j true=true→S i j (f (d i)) (f (d j)))→wpAny P md ops Q fuel listed (mk f) w:=by
 have hdone:∀(listed:Array Bool) (f:Nat→Value) (w:World),listed.size=ops.size→Below w0.heap.size w0 w→(∀j,j<ops.size→listed.getD j true=true→R j (f (d j)) w)→(∀i j,i<ops.size→j<ops.size→i≠j→listed.getD i true=true→listed.getD j true=true→S i j (f (d i)) (f (d j)))→Region.ready md ops listed=[]→Q .normal (mk f) w:=by
  intro listed f w hs hb hr hS h0;have key:∀j,j<ops.size→listed.getD j true=true:=by
   intro j
   induction j using Nat.strongRecOn with
   | _ j ih=>
    intro hj;cases hl:listed.getD j true with
    | true=>rfl
    | false=>
     exfalso;have hm:j∈Region.ready md ops listed:=by
      rw[mem_ready];refine⟨hl,ops[j],by simp[hj],fun e he hbd=>?_⟩;have hle:e.on<j:=by
       unfold Dg at hlex;have:=List.all_eq_true.1 hlex j (Cg.2 hj);simp only[Array.getElem?_eq_getElem hj,Option.map_some,Option.getD_some,Array.all_eq_true']at this;have:=this e he;simpa[hbd]using this
      have h1:=ih e.on hle (by omega);have hsz:e.on<listed.size:=by omega
      simpa[hsz]using h1
     rw[h0]at hm;cases hm
  exact hend f w hb (fun j hj=>hr j hj (key j hj)) (fun i j hi hj e=>hS i j hi hj e (key i hi) (key j hj))
 intro fuel
 induction fuel with
 | zero=>
  intro listed f w hs hu hb hr hS;have h0:Region.ready md ops listed=[]:=by
   rw[List.eq_nil_iff_forall_not_mem];intro j hj;obtain⟨hl,o,ho,-⟩:=mem_ready.1 hj;have hjs:j<listed.size:=by rw[hs];exact(BO.1 ho).1
   have hpos:0<listed.toList.countP (fun b=>!b):=by
    rw[List.countP_pos_iff];refine⟨listed[j],by simp,?_⟩;simpa[hjs]using hl
   unfold OH at hu;omega
  exact⟨h0,hdone listed f w hs hb hr hS h0⟩
 | succ fuel ih=>
  intro listed f w hs hu hb hr hS;refine⟨hdone listed f w hs hb hr hS,fun i hi=>?_⟩;obtain⟨hl,o,ho,hall⟩:=mem_ready.1 hi;have his:i<ops.size:=(BO.1 ho).1;have hil:i<listed.size:=by omega
  have hlist:∀k,EE md ops i k=true→k<ops.size∧listed.getD k true=true:=by
   intro k hk;unfold EE at hk;simp only[ho,Option.map_some,Option.getD_some,Array.any_eq_true',Ci,beq_iff_eq]at hk;obtain⟨e,he,hbd,rfl⟩:=hk;have hlf:=hall e he hbd;have hlt:e.on<listed.size:=by
    rcases Nat.lt_or_ge e.on listed.size with h | h
    ·exact h
    ·simp[Array.getElem?_eq_none h]at hlf
   exact⟨by omega,by simpa[hlt]using hlf⟩
  have hk:=hstep i o ho f w hb (fun k hk=>hr k (hlist k hk).1 (hlist k hk).2) (fun a b ha hb2 e=>hS a b (hlist a ha).1 (hlist b hb2).1 e (hlist a ha).2 (hlist b hb2).2) (wpAny P md ops Q fuel (listed.setIfInBounds i true)) (by
   intro v w' hb' hv hnew;rw[hput i his];refine ih _ _ _ (by simpa using hs) ?_ (hb.trans (hb'.mono hb.size)) ?_ ?_
   ·unfold OH at hu ⊢;have:=Jh listed.toList i (by simpa using hil) (by simpa[hil]using hl);rw[Array.toList_setIfInBounds];omega
   ·intro j hj hlj;by_cases e:j=i
    ·subst e;rw[AS];exact hv
    ·rw[AE _ _ _ _ (fun e2=>e (hinj j i hj his e2))];refine hR j _ w w' hb' (hr j hj ?_);rw[getD_set_ne true (fun e2=>e e2.symm)]at hlj;exact hlj
   ·intro a b ha hbb hab hla hlb;by_cases e:b=i
    ·subst e;rw[AS,AE _ _ _ _ (fun e2=>hab (hinj a b ha his e2))];rw[getD_set_ne true (fun e2=>hab e2.symm)]at hla;exact(hnew a _ hab (hr a ha hla)).1
    ·rw[getD_set_ne true (fun e2=>e e2.symm)]at hlb;by_cases e':a=i
     ·subst e';rw[AS,AE _ _ _ _ (fun e2=>e (hinj b a hbb his e2))];exact(hnew b _ e (hr b hbb hlb)).2
     ·rw[getD_set_ne true (fun e2=>e' e2.symm)]at hla;rw[AE _ _ _ _ (fun e2=>e' (hinj a i ha his e2)),AE _ _ _ _ (fun e2=>e (hinj b i hbb his e2))];exact hS a b ha hbb hab hla hlb)
  unfold wpOp;simp only[ho];split
  ·rename_i hw;rw[if_pos hw]at hk;exact .inl hk
  ·rename_i hw;rw[if_neg hw]at hk;exact hk
def Iw(P:Program)(ops:Array Oper)(Q:Exit→Act→World→Prop)(md:Region.Mode)(mk:(Nat→Value)→Act)(d:Nat→Nat)(w0:World)(R:Nat→Value→World→Prop)(S:Nat→Nat→Value→Value→Prop):Nat→List Oper→Prop
 | _,[]=>True
 | k,o::l=>Qp P ops Q md mk d w0 R S k o∧Iw P ops Q md mk d w0 R S (k+1) l
theorem Iw.at{mk:(Nat→Value)→Act}{d:Nat→Nat}{w0:World}{R:Nat→Value→World→Prop}{S:Nat→Nat→Value→Value→Prop}:∀(l:List Oper) (k:Nat),Iw P ops Q md mk d w0 R S k l→∀j o,l[j]?=some o→Qp P ops Q md mk d w0 R S (k+j) o
 | [],_,_,j,o,h=>by simp at h
 | x::l,k,h,0,o,ho=>by
  obtain rfl:x=o:=by simpa using ho
  exact h.1
 | x::l,k,h,j+1,o,ho=>by
  have:=Iw.at l (k+1) h.2 j o (by simpa using ho);rwa [show k+(j+1)=k+1+j by omega]
theorem Sq {id:Nat} {a:Act} {w:World} {l:List Oper} (f0:Nat→Value) (mk:(Nat→Value)→Act) (d:Nat→Nat) (R:Nat→Value→World→Prop) (S:Nat→Nat→Value→Value→Prop) (ha:a=mk f0)
 (hm:P.follows .mixedOrders=true) (hR:∀i u w w',Below w.heap.size w w'→R i u w→R i u w')
 (hlex:Dg .any l.toArray=true) (hinj:XS l.length d=true)
 (hput:∀j,j<l.length→∀f v,(mk f).put (some (d j)) v=mk (Bx f (d j) v))
 (hstep:Iw P l.toArray Q .any mk d w.drew R S 0 l)
 (hend:∀f w',Below w.heap.size w w'→(∀j,j<l.length→R j (f (d j)) w')→(∀i j,i<l.length→j<l.length→i≠j→S i j (f (d i)) (f (d j)))→Q .normal (mk f) w'):(Code.region id l.toArray true).wp P Q a w:=by
 subst ha;refine wp_region_any hm ?_;have hb0:Below w.drew.heap.size w.drew w.drew:=Ak _ _;refine TL mk d w.drew R S hR hlex ?_ (by simpa using hput) ?_ ?_ _ _ f0 w.drew (by simp) ?_ hb0 ?_ ?_
 ·intro i j hi hj e;have h1:=List.all_eq_true.1 hinj i (Cg.2 (by simpa using hi));have h2:=List.all_eq_true.1 h1 j (Cg.2 (by simpa using hj));simpa[e]using h2
 ·intro j o ho;have:=hstep.at l 0 j o (by simpa using ho);rwa [Nat.zero_add]at this
 ·intro f w' hb h hS;exact hend f w' ⟨hb.os,hb.tape,hb.output,hb.size,hb.block⟩ (by simpa using h) (by simpa using hS)
 ·unfold OH;simp;exact CP List.countP_le_length (by simp)
 ·intro j hj hl;simp at hj;simp[hj]at hl
 ·intro i j hi hj _ hl;simp at hi;simp[hi]at hl
end
abbrev En:Type:=Int×Int
def Ft(w:World)(v:Value)(l:List En):Prop:=∃a cap,v=.slice a l.length cap∧∀j,j<l.length→∃b o,a=some ⟨b,o,none⟩∧w.cell? ⟨b,o+j*2,none⟩=some (.int .i64 (l.getD j (0,0)).1)∧w.cell? ⟨b,o+j*2+1,none⟩=some (.int .i64 (l.getD j (0,0)).2)
theorem Ft.below{w w':World}{v:Value}{l:List En}(h:Ft w v l)(hb:Below w.heap.size w w'):Ft w' v l:=
 let ⟨a,c,e,h1⟩:=h
 ⟨a,c,e,fun j hj=>let ⟨b,o,e,h2,h3⟩:=h1 j hj;⟨b,o,e,Af hb h2,Af hb h3⟩⟩
def Sm(b:List En)(loc:Int):Nat→Nat
 | 0=>0
 | k+1=>Sm b loc k+if(b.getD k (0,0)).1=loc then 1 else 0
def bC(b:List En)(loc:Int):Nat:=Sm b loc b.length
theorem UG(b:List En)(loc:Int):∀k,Sm b loc k≤k
 | 0=>AQ _
 | k+1=>by have:=UG b loc k;rw[Sm];split <;> omega
theorem Zv(v:Value)(b:List En)(loc:Int)(w:World)(h:Ft w v b)(hl:b.length≤1000000):
 Calls Tryz.prog 88 #[v,.int .i64 loc] w fun r w'=>r=.returned (.int .i64 (bC b loc:Nat))∧Below w.heap.size w w':=by
 obtain⟨a,ac,rfl,ha⟩:=h;have HA:=Aa ha;have HS:Hid (∀k,Sm b loc (k+1)=Sm b loc k+if(b.getD k (0,0)).1=loc then 1 else 0):=Aa (fun k=>rfl);have HL:=Aa (UG b loc);have H0:Hid (Sm b loc 0=0):=Aa rfl;unfold bC;clear ha;generalize Sm b loc=CK at*;go_enter Tryz.func88,Tryz.ntmps88;go_wp2_with fail
 go_loopg [5,6] b.length (fun fu nv c wr=>∃k:Nat,k+fu=b.length∧nv=.int .i64 (CK k:Nat)∧c=.int .i64 k∧Hid (Below w.heap.size w wr))
 case atStart=>exact⟨0,by omega,by rw[H0.out];rfl,rfl,Aa (Ak _ _)⟩
 case round=>
  obtain⟨k,hk,rfl,rfl,HB⟩:=hrel;by_cases hlt:k<b.length
  ·obtain⟨b1,o1,rfl,d1,-⟩:=HA.out k hlt;have d1:=Af HB.out d1;have z1:(k:Int)<(b.length:Int):=by omega
   have hck:=HL.out k;have hs:=HS.out k;clear HL HS H0;generalize (b.getD k (0,0)).1=x at*;generalize hc1:CK (k+1)=c1 at*;generalize CK k=c0 at*;by_cases hx:x=loc
   ·rw[if_pos hx]at hs;have n1:(x==loc)=true:=by simp[hx]
    have HC:=Aa hc1;clear hc1;subst hs;go_wp2_with fail
    go_roundg (b.length - (k+1))
    case measure=>omega
    case rel=>exact⟨k+1,by omega,by rw[HC.out];simp,by simp,HB⟩
   ·rw[if_neg hx]at hs;have n1:(x==loc)=false:=Bh hx;have HC:=Aa hc1;clear hc1;subst hs;go_wp2_with fail
    go_roundg (b.length - (k+1))
    case measure=>omega
    case rel=>exact⟨k+1,by omega,by rw[HC.out],by simp,HB⟩
  ·obtain hkk:k=b.length:=by omega
   subst hkk;go_wp2_with fail
   go_ret;exact⟨rfl,HB.out⟩
def KN(b:List En)(model room loc:Int):Bool:=if model=2 then decide ((b.length:Int)<room) else if model=3 then decide ((bC b loc:Int)<room) else false
theorem cG(v:Value)(b:List En)(model room loc:Int)(w:World)(h:Ft w v b)(hl:b.length≤1000000):
 Calls Tryz.prog 64 #[v,.int .i64 model,.int .i64 room,.int .i64 loc] w fun r w'=>r=.returned (.bool (KN b model room loc))∧Below w.heap.size w w':=by
 have HC:=Aa (fun(w':World) (hb:Below w.heap.size w w')=>Zv v b loc w' (h.below hb) hl);obtain⟨a,ac,rfl,-⟩:=h;by_cases h2:model=2
 ·subst h2;go_enter Tryz.func64,Tryz.ntmps64;go_wp2_with fail
  go_ret;exact⟨rfl,Ak _ _⟩
 have n2:(model==2)=false:=Bh h2;by_cases h3:model=3
 ·subst h3;generalize hcn:bC b loc=cn at*;have E:KN b 3 room loc=decide ((cn:Int)<room):=by unfold KN;rw[hcn];rfl
  rw[E];clear E hcn;go_enter Tryz.func64,Tryz.ntmps64;go_wp2_with (go_at_call 88;refine(HC.out _ (Ak _ _)).mono ?_;rintro e1 w1 ⟨rfl,hb1⟩;have B1:=Aa hb1;clear hb1)
  go_ret;exact⟨rfl,B1.out⟩
 have n3:(model==3)=false:=Bh h3;have E:KN b model room loc=false:=by unfold KN;rw[if_neg h2,if_neg h3]
 rw[E];clear E h2 h3;go_enter Tryz.func64,Tryz.ntmps64;go_wp2_with fail
 go_ret;exact⟨rfl,Ak _ _⟩
def JH(b:List En)(loc:Int):Nat→Option Int
 | 0=>none
 | k+1=>if(b.getD k (0,0)).1=loc then some (b.getD k (0,0)).2 else JH b loc k
def NF(b:List En)(loc:Int):Option Int:=JH b loc b.length
theorem cH(v:Value)(b:List En)(loc:Int)(w:World)(h:Ft w v b)(hl:b.length≤1000000):
 Calls Tryz.prog 87 #[v,.int .i64 loc] w fun r w'=>r=.returned (.tuple #[.int .i64 ((NF b loc).getD 0),.bool (NF b loc).isSome])∧Below w.heap.size w w':=by
 obtain⟨a,ac,rfl,ha⟩:=h;have HA:=Aa ha;have HS:Hid (∀k,JH b loc (k+1)=if(b.getD k (0,0)).1=loc then some (b.getD k (0,0)).2 else JH b loc k):=Aa (fun k=>rfl);have H0:Hid (JH b loc 0=none):=Aa rfl;have HE:Hid (NF b loc=JH b loc b.length):=Aa rfl;clear ha;generalize NF b loc=RES at*;generalize JH b loc=LK at*;go_enter Tryz.func87,Tryz.ntmps87;go_wp2_with fail
 go_loopg [6] (b.length) (fun fu c wr=>fu≤b.length∧c=.int .i64 ((fu:Int) - 1)∧Hid (RES=LK fu)∧Hid (Below w.heap.size w wr))
 case atStart=>exact⟨AQ _,rfl,HE,Aa (Ak _ _)⟩
 case round=>
  obtain⟨hf,rfl,HR,HB⟩:=hrel;cases gk with
  | zero=>
   have E:=Aa (HR.out.trans H0.out);have e0:((0:Nat):Int) - 1=-1:=by omega
   rw[e0];go_wp2_with fail
   refine Bd (v:=.tuple #[.int .i64 0,.bool false]) (by simp[results,Tryz.results87,go_sem]) rfl ?_;exact⟨by rw[E.out];rfl,HB.out⟩
  | succ j=>
   have e0:((j+1:Nat):Int) - 1=(j:Int):=by omega
   rw[e0];obtain⟨b1,o1,rfl,d1,d2⟩:=HA.out j (by omega);have d1:=Af HB.out d1;have d2:=Af HB.out d2;have z0:0≤(j:Int):=by omega
   have z1:(j:Int)<(b.length:Int):=by omega
   have hs:=HS.out j;clear HS H0 HE;generalize (b.getD j (0,0)).1=x at*;generalize (b.getD j (0,0)).2=y at*;by_cases hx:x=loc
   ·rw[if_pos hx]at hs;have n1:(x==loc)=true:=by simp[hx]
    have E:=Aa (HR.out.trans hs);clear hs;go_wp2_with fail
    refine Bd (v:=.tuple #[.int .i64 y,.bool true]) (by simp[results,Tryz.results87,go_sem]) rfl ?_;exact⟨by rw[E.out];rfl,HB.out⟩
   ·rw[if_neg hx]at hs;have n1:(x==loc)=false:=Bh hx;have E:=Aa (HR.out.trans hs);clear hs;go_wp2_with fail
    go_roundg j
    case measure=>omega
    case rel=>exact⟨by omega,by simp,E,HB⟩
theorem bR(x y x' y':Int)(w:World):(binOp .neq 107 (.agg #[.int .i64 x,.int .i64 y]) (.agg #[.int .i64 x',.int .i64 y'])).run Tryz.prog w=.ok (.bool (!((x==x')&&(y==y')))) w:=by
 by_cases h1:x=x' <;> by_cases h2:y=y' <;> simp[go_sem,h1,h2]
structure aQ(w:World)(xv:Value)(m size:Nat)(news:List Value):Prop where
 ex:∃a c,xv=.slice a m c∧(0<m→∃b off,a=some ⟨b,off,none⟩∧∀j u,news[j]?=some u→w.cell? ((⟨b,off,none⟩:Addr).add j)=some u)
 len:news.length=m*size
 one:∀u∈news,u.oneCell'=true
theorem VM {P:Program} {w:World} {t ty e:TypeId} {i:TypeInfo} {z:Value} {size bytes:Nat} (ht:P.underlying t=some (.slice e)) (hi:P.info? e=some i) (hz:i.zero=some z) (hsize:i.size=size) (hby:i.bytes=bytes) (hzs:z.cells.size=size) (hsz:0<size)
 (base:Nat) {xv:Value} {m:Nat} {news:List Value} (hx:aQ w xv m size news) (hm:m≤1000000) (hb1:bytes≤1000000) (hbase:base≤w.heap.size):
 ∃ad cap w',(Builtin.append_ #[t,t] ty #[.slice none 0 0,xv]).run P w=.ok (.slice ad m cap) w'∧w'.ownsRow base e size (.slice ad m cap) m news∧w.grownBy w' none∧(∀k,Value.ownBlock (.slice ad m cap)=some k→k=w.heap.size):=by
 obtain⟨⟨a,c,rfl,hc⟩,hl,ho⟩:=hx;by_cases h0:m=0
 ·subst h0;have hn:news=[]:=List.eq_nil_of_length_eq_zero (by omega);subst hn;refine⟨none,0,w,?_,CO _ _ _ _,⟨rfl,rfl,rfl,AQ _,fun _ _ _=>rfl⟩,fun k hk=>by cases hk⟩;have hs:Go.Src P i.size t (.slice a 0 c) 0 [] w:=by
   cases a with
   | none=>exact Go.Src.ofNil w ht c
   | some x=>exact Go.Src.ofSlice w ht x 0 c [] (by simp) (fun j u hu=>by simp at hu) (fun _ hu=>by cases hu)
  simp[Builtin.append_,run_underlying ht,sizeOf,typeInfo,hi,hs.len,hs.cells]
 ·obtain⟨b,off,rfl,hcl⟩:=hc (by omega);have hbb:m*bytes≤1000000*1000000:=Nat.mul_le_mul hm hb1;obtain⟨g,cap,w',q1,q2,q3,q4,q5⟩:=run_append_lies (P:=P) w t ty base e i z size bytes ht hi hz hsize hby hzs hsz (.slice none 0 0) 0 [] (CO _ _ _ _) ⟨b,off,none⟩ m c news hl hcl ho (by omega) (by unfold maxLen;omega) (by rw[Nat.zero_add];omega) hbase w.heap.size rfl;rw[Nat.zero_add]at q1 q2;refine⟨_,_,w',q1,q2,q3,fun k hk=>?_⟩;obtain rfl:g=k:=by simpa[Value.ownBlock]using hk
  rcases q4 with q4 | q4
  ·cases q4
  ·exact q4
section
variable {P:Program} {ops:Array Oper} {rest:List Oper} {o:Oper} {a:Act} {Q:Exit→Act→World→Prop}
theorem Hi {w:World} {t e:TypeId} {i:TypeInfo} {z:Value} {size bytes:Nat} (hg:o.guard=none) (s x:Operand) (hop:o.op=.call {callee:=.builtin .append,args:=#[s,x],argTypes:=#[t,t]})
 (ht:P.underlying t=some (.slice e)) (hi:P.info? e=some i) (hz:i.zero=some z) (hsize:i.size=size) (hby:i.bytes=bytes) (hzs:z.cells.size=size) (hsz:0<size)
 (base:Nat) (hs:a.eval s=.slice none 0 0) {xv:Value} {m:Nat} {news:List Value} (hxe:a.eval x=xv) (hx:aQ w xv m size news) (hm:m≤1000000) (hb1:bytes≤1000000) (hbase:base≤w.heap.size)
 (hK:∀ad cap w',w'.ownsRow base e size (.slice ad m cap) m news→w.grownBy w' none→(∀k,Value.ownBlock (.slice ad m cap)=some k→k=w.heap.size)→wpList P ops Q rest (a.put o.dst (.slice ad m cap)) w'):wpList P ops Q (o::rest) a w:=by
 refine wpList_plain hg fun K' hK'=>?_;obtain⟨ad,cap,w',hr,h2,h3,h4⟩:=VM (ty:=o.type) ht hi hz hsize hby hzs hsz base hx hm hb1 hbase;unfold Oper.wp execOp;simp only[hop,resolve,invoke,builtin,Sem.run_bind,Sem.run_pure,Result.andThen_ok,List.map_toArray,List.map_cons,List.map_nil,hs,hxe,hr];exact hK' _ _ (hK ad cap w' h2 h3 h4)
end
theorem Am.src{w:World}{v:Value}{l:List Int}(h:Am w v l):aQ w v l.length 1 (l.map (Value.int .i64)):=by
 obtain⟨a,c,rfl,hc⟩:=h;refine⟨⟨a,c,rfl,fun hm=>?_⟩,by simp,fun u hu=>by obtain⟨y,-,rfl⟩:=DJ.1 hu;rfl⟩;obtain⟨b,off,rfl,-⟩:=hc 0 hm;refine⟨b,off,rfl,fun j u hu=>?_⟩;have hj:j<l.length:=by
  rcases Nat.lt_or_ge j l.length with q | q
  ·exact q
  ·rw[List.getElem?_eq_none (by simpa using q)]at hu;cases hu
 obtain⟨b',o',e,hcl⟩:=hc j hj;cases e;rw[Go.WideShapes.add_plain,hcl,← hu];simp[AM,hj]
def CG:List En→List Value
 | []=>[]
 | x::l=>.int .i64 x.1::.int .i64 x.2::CG l
theorem Jb:∀l:List En,(CG l).length=l.length*2
 | []=>rfl
 | x::l=>by rw[CG,List.length_cons,List.length_cons,Jb l,List.length_cons];omega
theorem Ic:∀(l:List En) (j:Nat),j<l.length→(CG l)[j*2]?=some (.int .i64 (l.getD j (0,0)).1)∧(CG l)[j*2+1]?=some (.int .i64 (l.getD j (0,0)).2)
 | [],j,h=>by simp at h
 | x::l,0,_=>⟨rfl,rfl⟩
 | x::l,j+1,h=>by
  have:=Ic l j (by simpa using h);rw[CG,show(j+1)*2=j*2+2 by omega];simpa using this
theorem Iz:∀a b:List En,CG (a++b)=CG a++CG b
 | [],b=>rfl
 | x::a,b=>by rw[List.cons_append,CG,Iz a b,CG];rfl
theorem LO:∀(l:List En),∀u∈CG l,u.oneCell'=true
 | [],u,h=>by simp[CG]at h
 | x::l,u,h=>by
  rw[CG]at h;rcases Br.1 h with rfl | h
  ·rfl
  rcases Br.1 h with rfl | h
  ·rfl
  exact LO l u h
theorem Ft.src{w:World}{v:Value}{l:List En}(h:Ft w v l):aQ w v l.length 2 (CG l):=by
 obtain⟨a,c,rfl,hc⟩:=h;refine⟨⟨a,c,rfl,fun hm=>?_⟩,Jb l,LO l⟩;obtain⟨b,off,rfl,-⟩:=hc 0 hm;refine⟨b,off,rfl,fun j u hu=>?_⟩;have hj:j<l.length*2:=by
  rcases Nat.lt_or_ge j (l.length*2) with q | q
  ·exact q
  ·rw[List.getElem?_eq_none (by rw[Jb];exact q)]at hu;cases hu
 obtain⟨b',o',e,h1,h2⟩:=hc (j / 2) (by omega);cases e;obtain⟨q1,q2⟩:=Ic l (j / 2) (by omega);rw[Go.WideShapes.add_plain];rcases Nat.mod_two_eq_zero_or_one j with hm2 | hm2
 ·rw[show j=j / 2*2 by omega]at hu ⊢;rw[q1]at hu;rw[h1,← hu]
 ·rw[show j=j / 2*2+1 by omega]at hu ⊢;rw[q2]at hu;rw[← Nat.add_assoc,h2,← hu]
def Cb(base:Nat)(w:World)(v:Value)(l:List En):Prop:=w.ownsRow base 107 2 v l.length (CG l)
theorem Cb.nil(base:Nat)(w:World):Cb base w (.slice none 0 0) []:=CO _ _ _ _
theorem Cb.more{base:Nat}{w w':World}{v:Value}{l:List En}(h:Cb base w v l)(hb:Below w.heap.size w w'):Cb base w' v l:=Nk h hb
theorem Cb.ens{base:Nat}{w:World}{v:Value}{l:List En}(h:Cb base w v l):Ft w v l:=by
 rcases Nat.eq_zero_or_pos l.length with h0 | h0
 ·obtain rfl:l=[]:=List.eq_nil_of_length_eq_zero h0;obtain⟨a,c,rfl⟩:=Bp h;exact⟨a,c,rfl,fun j hj=>by simp at hj⟩
 ·obtain⟨g,cap,rfl,-,-⟩:=World.ownsRow.form h h0;refine⟨_,_,rfl,fun j hj=>⟨g,0,rfl,?_,?_⟩⟩
  ·have:=World.ownsRow.cellAt h (j*2) (by omega);rw[Nat.zero_add,this,(Ic l j hj).1]
  ·have:=World.ownsRow.cellAt h (j*2+1) (by omega);rw[Nat.zero_add,this,(Ic l j hj).2]
theorem Tryz.info107:(Tryz.prog.info? 107).map (fun i=>(i.zero,i.size,i.bytes))=some (some (.agg #[.int .i64 0,.int .i64 0]),2,16):=by kernel_rfl
theorem CI{w:World}{base base':Nat}{e:TypeId}{size:Nat}{v:Value}{n:Nat}{xs:List Value}(h:w.ownsRow base e size v n xs)(hb:base'≤base):w.ownsRow base' e size v n xs:=
 ⟨h.1,h.2.imp id (fun⟨g,cap,cur,e1,h1,r⟩=>⟨g,cap,cur,e1,CP hb h1,r⟩)⟩
theorem aH{a b:List En}(hl:a.length=b.length)(h:∀k,k<a.length→a.getD k (0,0)=b.getD k (0,0)):a=b:=by
 refine List.ext_getElem hl fun k h1 h2=>?_;have:=h k h1;rwa [AM,AM,Bf h1,Bf h2]at this
theorem Yv(v u:Value)(a b:List En)(w:World)(h:Ft w v a)(k:Ft w u b)(hl:a.length≤1000000):
 Calls Tryz.prog 63 #[v,u] w fun r w'=>r=.returned (.bool (decide (a=b)))∧Below w.heap.size w w':=by
 obtain⟨aa,ac,rfl,ha⟩:=h;obtain⟨ba,bc,rfl,hb⟩:=k;have HA:=Aa ha;have HB:=Aa hb;clear ha hb;by_cases hlen:a.length=b.length;rotate_left
 ·have E:decide (a=b)=false:=Cj (fun e=>hlen (by rw[e]));rw[E];have n1:((a.length:Int)!=(b.length:Int))=true:=by simp;omega
  clear E hlen HA HB;go_enter Tryz.func63,Tryz.ntmps63;go_wp2_with fail
  go_ret;exact⟨rfl,Ak _ _⟩
 have HEQ:Hid ((∀k,k<a.length→a.getD k (0,0)=b.getD k (0,0))→decide (a=b)=true):=Aa (fun q=>Ck (aH hlen q));have HNE:Hid (∀k,a.getD k (0,0)≠b.getD k (0,0)→decide (a=b)=false):=Aa (fun k q=>Cj (fun e=>q (by rw[e])));have n1:((a.length:Int)!=(b.length:Int))=false:=by simp;omega
 have HLN:=Aa hlen;generalize decide (a=b)=RES at*;clear hlen;go_enter Tryz.func63,Tryz.ntmps63;go_wp2_with fail
 clear n1;go_loopg [5] a.length (fun fu c wr=>∃k:Nat,k+fu=a.length∧c=.int .i64 k∧Hid (∀j,j<k→a.getD j (0,0)=b.getD j (0,0))∧Hid (Below w.heap.size w wr))
 case atStart=>exact⟨0,by omega,rfl,Aa (fun j hj=>by omega),Aa (Ak _ _)⟩
 case round=>
  obtain⟨k,hk,rfl,HI,HBW⟩:=hrel;by_cases hlt:k<a.length
  ·obtain⟨b1,o1,rfl,d1,d2⟩:=HA.out k hlt;obtain⟨b2,o2,rfl,e1,e2⟩:=HB.out k (by have:=HLN.out;omega);obtain⟨d1,d2,e1,e2⟩:=Zf HBW.out d1 d2 e1 e2;have z1:(k:Int)<(a.length:Int):=by omega
   have z2:(k:Int)<(b.length:Int):=by have:=HLN.out;omega
   have HN:=Aa (HNE.out k);have HI2:Hid (a.getD k (0,0)=b.getD k (0,0)→∀j,j<k+1→a.getD j (0,0)=b.getD j (0,0)):=Aa (fun h j hj=>by
    by_cases e:j=k
    ·rw[e];exact h
    ·exact HI.out j (by omega))
   clear HNE;generalize a.getD k (0,0)=x at*;generalize b.getD k (0,0)=y at*;have hne:=bR x.1 x.2 y.1 y.2;by_cases hxy:x=y
   ·have HI3:=Aa (HI2.out hxy);subst hxy;have q1:(!((x.1==x.1)&&(x.2==x.2)))=false:=by simp
    rw[q1]at hne;clear HI2 HN q1;go_wp2_with fail
    go_quiet (fail)
    go_wp2_with fail
    go_roundg (a.length - (k+1))
    case measure=>omega
    case rel=>exact⟨k+1,by omega,by simp,HI3,Aa (by first | exact HBW.out.drew | exact BD HBW.out _)⟩
   ·have E:=Aa (HN.out hxy);have q1:(!((x.1==y.1)&&(x.2==y.2)))=true:=by
     have:¬(x.1=y.1∧x.2=y.2):=fun q=>hxy (Prod.ext q.1 q.2);cases h1:(x.1==y.1)
     ·rfl
     ·cases h2:(x.2==y.2)
      ·rfl
      ·exact absurd ⟨beq_iff_eq.1 h1,beq_iff_eq.1 h2⟩ this
    rw[q1]at hne;clear HI2 HN q1 hxy;go_wp2_with fail
    go_quiet (fail)
    go_wp2_with fail
    go_ret;exact⟨by rw[E.out];rfl,by first | exact HBW.out.drew | exact BD HBW.out _⟩
  ·have E:=Aa (HEQ.out (fun j hj=>HI.out j (by omega)));go_wp2_with fail
   go_ret;exact⟨by rw[E.out];rfl,HBW.out⟩
def MJ(e:En)(b:List En):Nat→List En×Bool
 | 0=>([],false)
 | k+1=>if(MJ e b k).2=false∧e.1<(b.getD k (0,0)).1 then((MJ e b k).1++[e]++[b.getD k (0,0)],true) else((MJ e b k).1++[b.getD k (0,0)],(MJ e b k).2)
def Ef(b:List En)(model:Int)(e:En):List En:=if model=2 then b++[e] else if(MJ e b b.length).2=true then(MJ e b b.length).1 else(MJ e b b.length).1++[e]
theorem Qq(e:En)(b:List En):∀k,(MJ e b k).1.length≤k+(if(MJ e b k).2=true then 1 else 0)
 | 0=>by simp[MJ]
 | k+1=>by
  have:=Qq e b k;rw[MJ];split
  ·rename_i h;rw[h.1]at this;simp at this ⊢;omega
  ·simp only[Bs,List.length_singleton];omega
theorem Cb.snoc{base:Nat}{w:World}{v:Value}{l:List En}{e:En}{m:Nat}(h:w.ownsRow base 107 2 v m (CG l++[.int .i64 e.1,.int .i64 e.2]))(hm:l.length+1=m):Cb base w v (l++[e]):=by
 unfold Cb;rw[Bs,Iz];subst hm;exact h
theorem Ry(v:Value)(b:List En)(e:En)(w:World)(h:Ft w v b)(hl:b.length≤1000):
 Calls Tryz.prog 61 #[v,.int .i64 2,.agg #[.int .i64 e.1,.int .i64 e.2]] w fun r w'=>∃rv,r=.returned rv∧Cb w.heap.size w' rv (Ef b 2 e)∧Below w.heap.size w w':=by
 obtain⟨i0,hi0,hz0,hz1,hz2⟩:=CE Tryz.info107;have hbx:=Ae w (.cells #[.int .i64 e.1,.int .i64 e.2] 107);have S0:=Aa (Li.start w #[.int .i64 e.1,.int .i64 e.2] 107);have hsrc:=(h.below hbx).src;have HS:=Aa hsrc;obtain⟨a,c,rfl,-⟩:=h;have E:Ef b 2 e=b++[e]:=rfl;rw[E];clear E hbx hsrc;generalize hw1:w.alloc (.cells #[.int .i64 e.1,.int .i64 e.2] 107)=w1 at*;obtain⟨c0,c1⟩:=Wz S0.out.blk;go_enter Tryz.func61,Tryz.ntmps61;go_wp2_with (first
  | (at_builtin;refine wpList_append_lies (w2.alloc (.cells #[.int .i64 e.1,.int .i64 e.2] 107)) rfl (.tmp 17) (.tmp 19) 102 rfl w.heap.size 107 i0 (.agg #[.int .i64 0,.int .i64 0]) 2 16 Tryz.underlying102 hi0 hz0 hz1 hz2 rfl (by decide) (.slice ad b.length cap) (b.length) _ rfl (World.ownsRow.alloc HO2.out _) ⟨w2.heap.size,0,none⟩ 1 1 [.int .i64 e.1,.int .i64 e.2] rfl rfl (World.news_of_block (Ar _ _)) (by simp[Value.oneCell']) (by omega) (by unfold maxLen;omega) (by omega) (by have:=HB2.out.size;simp;omega) (w2.heap.size+1) (by simp) ?_;intro g3 cap3 w3 hown3 hgr3 hor3 hlt3;have HO3:=Aa hown3;have HB3:=Aa (CA HB2.out HO2.out hgr3);clear hown3 hgr3 hor3)
  | (at_builtin;(refine Hi rfl (.tmp 12) (.tmp 13) rfl Tryz.underlying102 hi0 hz0 hz1 hz2 rfl (by decide) w.heap.size rfl rfl HS.out (by omega) (by omega) S0.out.below.size ?_);intro ad cap w2 hown hgr hor;have HO2:=Aa hown;have hb2:Below w.heap.size w w2:=S0.out.below.grown hgr S0.out.below.size (fun k hk=>by cases hk);have S2:=Aa (show Li w w2 #[.int .i64 e.1,.int .i64 e.2] 107 from⟨hb2,by rw[hgr.block _ (BO.1 S0.out.blk).1 (by simp)];exact S0.out.blk⟩);have HB2:=Aa hb2;clear c0 c1 hown hgr hor hb2;obtain⟨c0,c1⟩:=Wz S2.out.blk))
 go_ret;exact⟨_,rfl,Cb.snoc HO3.out rfl,HB3.out⟩
theorem Sd(v:Value)(b:List En)(e:En)(w:World)(h:Ft w v b)(hl:b.length≤1000):
 Calls Tryz.prog 61 #[v,.int .i64 3,.agg #[.int .i64 e.1,.int .i64 e.2]] w fun r w'=>∃rv,r=.returned rv∧Cb w.heap.size w' rv (Ef b 3 e)∧Below w.heap.size w w':=by
 obtain⟨i0,hi0,hz0,hz1,hz2⟩:=CE Tryz.info107;have hbx:=Ae w (.cells #[.int .i64 e.1,.int .i64 e.2] 107);have S0:=Aa (Li.start w #[.int .i64 e.1,.int .i64 e.2] 107);have h1:=h.below hbx;obtain⟨a,c,rfl,ha⟩:=h1;have HA:=Aa ha;have HS:Hid (∀k,MJ e b (k+1)=if(MJ e b k).2=false∧e.1<(b.getD k (0,0)).1 then((MJ e b k).1++[e]++[b.getD k (0,0)],true) else((MJ e b k).1++[b.getD k (0,0)],(MJ e b k).2)):=Aa (fun k=>rfl);have HL:=Aa (Qq e b);have HE:Hid (Ef b 3 e=if(MJ e b b.length).2=true then(MJ e b b.length).1 else(MJ e b b.length).1++[e]):=Aa rfl;have H0:Hid (MJ e b 0=([],false)):=Aa rfl;clear ha h hbx;generalize Ef b 3 e=RES at*;generalize MJ e b=IK at*;generalize hw1:w.alloc (.cells #[.int .i64 e.1,.int .i64 e.2] 107)=w1 at*;go_enter Tryz.func61,Tryz.ntmps61;go_wp2_with fail
 clear hw1;go_loopg [7,8,9] b.length (fun fu ov pv c wr=>∃(k:Nat) (o:List En) (p:Bool),k+fu=b.length∧pv=.bool p∧c=.int .i64 k∧Hid (IK k=(o,p))∧Hid (Cb w1.heap.size wr ov o)∧Hid (Below w1.heap.size w1 wr))
 case atStart=>exact⟨0,[],false,by omega,rfl,rfl,H0,Aa (Cb.nil _ _),Aa (Ak _ _)⟩
 case round=>
  clear H0;obtain⟨k,o,p,hk,rfl,rfl,HI,HO,HB⟩:=hrel;have hlen:=HL.out k;rw[HI.out]at hlen;simp only at hlen;have S:=Aa (S0.out.more HB.out);obtain⟨c0,c1⟩:=Wz S.out.blk;obtain⟨oa,oc,rfl⟩:=Bp HO.out;have hol:o.length≤2000:=by
   have:(if p=true then 1 else 0)≤1:=by split <;> omega
   omega
  by_cases hlt:k<b.length
  ·obtain⟨b1,o1,rfl,x1,x2⟩:=HA.out k hlt;have d1:=Af HB.out x1;have d2:=Af HB.out x2;have z1:(k:Int)<(b.length:Int):=by omega
   have hs:=HS.out k;rw[HI.out]at hs;simp only at hs;clear HS HL HE HI hlen;generalize b.getD k (0,0)=x at*;by_cases hc:p=false∧e.1<x.1
   ·obtain⟨rfl,hgt⟩:=hc;rw[if_pos ⟨rfl,hgt⟩]at hs;have E:=Aa hs;have y1:decide (e.1<x.1)=true:=Ck hgt;clear hs;go_wp2_with fail
    go_quiet (fail)
    have HBZ:=Aa (HB.out.trans ((BD (Ak wr.heap.size wr) nq).mono HB.out.size));have HO1:=Aa (HO.out.more (BD (Ak _ _) nq));clear c0 c1 S HO HB d1 d2;generalize wr.drewN nq=wz at*;have SZ:=Aa (S0.out.more HBZ.out);obtain⟨c0,c1⟩:=Wz SZ.out.blk;go_wp2_with (first
     | (at_builtin;refine wpList_append_lies (w3.alloc (.cells #[.int .i64 x.1,.int .i64 x.2] 107)) rfl (.tmp 44) (.tmp 49) 102 rfl w1.heap.size 107 i0 (.agg #[.int .i64 0,.int .i64 0]) 2 16 Tryz.underlying102 hi0 hz0 hz1 hz2 rfl (by decide) (.slice (some ⟨g3,0,none⟩) (o.length+1) cap3) (o.length+1) _ rfl (World.ownsRow.alloc HO3.out _) ⟨w3.heap.size,0,none⟩ 1 1 [.int .i64 x.1,.int .i64 x.2] rfl rfl (World.news_of_block (Ar _ _)) (by simp[Value.oneCell']) (by omega) (by unfold maxLen;omega) (by omega) (by have:=HB3.out.size;simp;omega) (w3.heap.size+1) (by simp) ?_;intro g4 cap4 w4 hown4 hgr4 hor4 hlt4;have HO4:=Aa hown4;have HB4:=Aa (CA HB3.out HO3.out hgr4);clear hown4 hgr4 hor4)
     | (at_builtin;refine wpList_append_lies (wz.alloc (.cells #[.int .i64 e.1,.int .i64 e.2] 107)) rfl (.tmp 40) (.tmp 42) 102 rfl w1.heap.size 107 i0 (.agg #[.int .i64 0,.int .i64 0]) 2 16 Tryz.underlying102 hi0 hz0 hz1 hz2 rfl (by decide) (.slice oa o.length oc) (o.length) _ rfl (World.ownsRow.alloc HO1.out _) ⟨wz.heap.size,0,none⟩ 1 1 [.int .i64 e.1,.int .i64 e.2] rfl rfl (World.news_of_block (Ar _ _)) (by simp[Value.oneCell']) (by omega) (by unfold maxLen;omega) (by omega) (by have:=HBZ.out.size;simp;omega) (wz.heap.size+1) (by simp) ?_;intro g3 cap3 w3 hown3 hgr3 hor3 hlt3;have HO3:=Aa hown3;have HB3:=Aa (CA HBZ.out HO1.out hgr3);clear hown3 hgr3 hor3;have d1:=Af HB3.out x1;have d2:=Af HB3.out x2))
    go_roundg (b.length - (k+1))
    case measure=>omega
    case rel=>exact⟨k+1,_,true,by omega,rfl,by simp,E,Aa (Cb.snoc (l:=o++[e]) (by rw[Iz];exact HO4.out) (by simp)),HB4⟩
   ·rw[if_neg hc]at hs;have E:=Aa hs;clear hs;cases p
    ·have hle:x.1≤e.1:=by
      rcases Int.lt_or_le e.1 x.1 with q | q
      ·exact absurd ⟨rfl,q⟩ hc
      ·exact q
     have y1:decide (e.1<x.1)=false:=Cj (by omega);clear hc;go_wp2_with fail
     go_quiet (fail)
     have HBZ:=Aa (HB.out.trans ((BD (Ak wr.heap.size wr) nq).mono HB.out.size));have HO1:=Aa (HO.out.more (BD (Ak _ _) nq));clear c0 c1 S HO HB d1 d2;generalize wr.drewN nq=wz at*;have d1:=Af HBZ.out x1;have d2:=Af HBZ.out x2;go_wp2_with (at_builtin;refine wpList_append_lies (wz.alloc (.cells #[.int .i64 x.1,.int .i64 x.2] 107)) rfl (.tmp 44) (.tmp 49) 102 rfl w1.heap.size 107 i0 (.agg #[.int .i64 0,.int .i64 0]) 2 16 Tryz.underlying102 hi0 hz0 hz1 hz2 rfl (by decide) (.slice oa o.length oc) (o.length) _ rfl (World.ownsRow.alloc HO1.out _) ⟨wz.heap.size,0,none⟩ 1 1 [.int .i64 x.1,.int .i64 x.2] rfl rfl (World.news_of_block (Ar _ _)) (by simp[Value.oneCell']) (by omega) (by unfold maxLen;omega) (by omega) (by have:=HBZ.out.size;simp;omega) (wz.heap.size+1) (by simp) ?_;intro g3 cap3 w3 hown3 hgr3 hor3 hlt3;have HO3:=Aa hown3;have HB3:=Aa (CA HBZ.out HO1.out hgr3);clear hown3 hgr3 hor3)
     go_roundg (b.length - (k+1))
     case measure=>omega
     case rel=>exact⟨k+1,_,false,by omega,rfl,by simp,E,Aa (Cb.snoc HO3.out rfl),HB3⟩
    ·clear hc;go_wp2_with fail
     go_quiet (fail)
     have HBZ:=Aa (HB.out.trans ((BD (Ak wr.heap.size wr) nq).mono HB.out.size));have HO1:=Aa (HO.out.more (BD (Ak _ _) nq));clear c0 c1 S HO HB d1 d2;generalize wr.drewN nq=wz at*;have d1:=Af HBZ.out x1;have d2:=Af HBZ.out x2;go_wp2_with (at_builtin;refine wpList_append_lies (wz.alloc (.cells #[.int .i64 x.1,.int .i64 x.2] 107)) rfl (.tmp 44) (.tmp 49) 102 rfl w1.heap.size 107 i0 (.agg #[.int .i64 0,.int .i64 0]) 2 16 Tryz.underlying102 hi0 hz0 hz1 hz2 rfl (by decide) (.slice oa o.length oc) (o.length) _ rfl (World.ownsRow.alloc HO1.out _) ⟨wz.heap.size,0,none⟩ 1 1 [.int .i64 x.1,.int .i64 x.2] rfl rfl (World.news_of_block (Ar _ _)) (by simp[Value.oneCell']) (by omega) (by unfold maxLen;omega) (by omega) (by have:=HBZ.out.size;simp;omega) (wz.heap.size+1) (by simp) ?_;intro g3 cap3 w3 hown3 hgr3 hor3 hlt3;have HO3:=Aa hown3;have HB3:=Aa (CA HBZ.out HO1.out hgr3);clear hown3 hgr3 hor3)
     go_roundg (b.length - (k+1))
     case measure=>omega
     case rel=>exact⟨k+1,_,true,by omega,rfl,by simp,E,Aa (Cb.snoc HO3.out rfl),HB3⟩
  ·have hkk:k=b.length:=by omega
   subst hkk;have he:=HE.out;rw[HI.out]at he;simp only at he;have HW1:=Aa S0.out.below;cases p
   ·rw[if_neg (by simp)]at he;have E:=Aa he;clear he HE HL HS;go_wp2_with (at_builtin;refine wpList_append_lies (wr.alloc (.cells #[.int .i64 e.1,.int .i64 e.2] 107)) rfl (.tmp 53) (.tmp 55) 102 rfl w1.heap.size 107 i0 (.agg #[.int .i64 0,.int .i64 0]) 2 16 Tryz.underlying102 hi0 hz0 hz1 hz2 rfl (by decide) (.slice oa o.length oc) (o.length) _ rfl (World.ownsRow.alloc HO.out _) ⟨wr.heap.size,0,none⟩ 1 1 [.int .i64 e.1,.int .i64 e.2] rfl rfl (World.news_of_block (Ar _ _)) (by simp[Value.oneCell']) (by omega) (by unfold maxLen;omega) (by omega) (by have:=HB.out.size;simp;omega) (wr.heap.size+1) (by simp) ?_;intro g3 cap3 w3 hown3 hgr3 hor3 hlt3;have HO3:=Aa hown3;have HB3:=Aa (CA HB.out HO.out hgr3);clear hown3 hgr3 hor3)
    go_ret;exact⟨_,rfl,by rw[E.out];exact CI (Cb.snoc HO3.out rfl) HW1.out.size,HW1.out.trans (HB3.out.mono HW1.out.size)⟩
   ·rw[if_pos rfl]at he;have E:=Aa he;clear he HE HL HS;go_wp2_with fail
    go_ret;exact⟨_,rfl,by rw[E.out];exact CI HO.out HW1.out.size,HW1.out.trans (HB.out.mono HW1.out.size)⟩
def Eg(g:Gr)(a b:Nat):Prop:=∃e∈Av g,e.1=(a:Int)∧e.2.2=(b:Int)
def SC(g:Gr)(i k:Nat):Prop:=Io (Eg g) i k∧Io (Eg g) k i
theorem SC.refl(g:Gr)(i:Nat):SC g i i:=⟨.refl i,.refl i⟩
theorem SC.symm{g:Gr}{i k:Nat}(h:SC g i k):SC g k i:=⟨h.2,h.1⟩
theorem SC.trans{g:Gr}{i k j:Nat}(h:SC g i k)(h2:SC g k j):SC g i j:=⟨h.1.trans h2.1,h2.2.trans h.2⟩
noncomputable def cW(g:Gr)(i:Nat):Nat:=Oc (fun k=>SC g i k)
theorem SU(g:Gr)(i:Nat):SC g i (cW g i):=(IZ (p:=fun k=>SC g i k) ⟨i,SC.refl g i⟩).1
theorem QS{g:Gr}{i k:Nat}:cW g i=cW g k↔SC g i k:=by
 constructor
 ·intro h;have a:=SU g i;have b:=SU g k;rw[h]at a;exact a.trans b.symm
 ·intro h;have e:(fun j=>SC g i j)=(fun j=>SC g k j):=by
   funext j
   exact propext ⟨fun q=>h.symm.trans q,fun q=>h.trans q⟩
  unfold cW;rw[e]
noncomputable def GM(g:Gr):List Nat:=(DZ (Gh (cW g)) (Ad g)).1
noncomputable def DR(g:Gr)(i:Nat):Nat:=Mp (Gh (cW g)) i
theorem MQ(g:Gr):(GM g).length=Ad g:=Fb _ _
theorem Ty{g:Gr}{i:Nat}(h:i<Ad g):(GM g).getD i 0=DR g i:=Hg _ _ _ h
theorem II{g:Gr}{i k:Nat}:DR g i=DR g k↔SC g i k:=by
 unfold DR;rw[Us (max i k+1) i k (by omega) (by omega)];exact QS
theorem Rw{g:Gr}{i:Nat}(h:i<Ad g):DR g i<Ad g:=Nat.lt_of_lt_of_le (La _ _ _ h) (Fe _ _)
theorem Hu{g:Gr}{E:Nat→Nat→Bool}(h:∀i k,i<Ad g→k<i→(E i k=true↔SC g i k)):(DZ E (Ad g)).1=GM g:=by
 unfold GM;rw[Px (Ad g) (fun i k hi hk=>?_)];have:=h i k hi hk;rw[← QS]at this;show E i k=decide (cW g i=cW g k);cases e:E i k
 ·simp only[e,Bool.false_eq_true,false_iff]at this;simp[this]
 ·simp only[e,true_iff]at this;simp[this]
theorem aF{g:Gr}(h:Rt g){n i:Nat}{j:Int}(hr:Vd (Av g) (Src n [(i:Int)]) j):0≤j∧Io (Eg g) i j.toNat:=by
 induction hr with
 | base hb=>
  obtain⟨h1,h2,-⟩:=hb;obtain rfl:_=(i:Int):=by simpa using h1
  exact⟨h2,by simpa using Io.refl i⟩
 | step _ he ih=>
  have hm:=Bt h he;exact⟨by omega,.step ih.2 ⟨_,he,by omega,by omega⟩⟩
theorem bZ{g:Gr}{n i j:Nat}(hi:i<n)(hp:Io (Eg g) i j):Vd (Av g) (Src n [(i:Int)]) (j:Int):=by
 induction hp with
 | refl=>exact .base ⟨by simp,by omega,by omega⟩
 | step _ he ih=>
  obtain⟨e,he,h1,h2⟩:=he;have:=ih;rw[← h1]at this;rw[← h2];exact .step this he
theorem Pq{g:Gr}(h:Rt g){i j:Nat}(hi:i<Ad g)(hj:j<Ad g):(Cq g [(i:Int)]).getD j false=true↔Io (Eg g) i j:=by
 rw[MY h _ hj];exact⟨fun q=>by simpa using(aF h q).2,fun q=>bZ hi q⟩
def Zc(g:Gr)(h:Rt g):TG where
 n:=Ad g
 S:=st g
 T:=fun k=>(g.T.getD k 0).toNat
 hT:=fun x k hx h1 h2=>by
  have hn:=Ap h;have:=h.stTop (i:=x+1) (by omega);have:=h.tos k (by omega);omega
 hS:=fun x hx=>by
  have hn:=Ap h;exact h.stLe (Nat.le_succ x) (by omega)
theorem UQ{g:Gr}{i:Nat}{e:Ed}:e∈Lw g i↔∃k,st g i≤k∧k<st g (i+1)∧edge g i k=e:=by
 simp only[Lw,Dy,DJ,List.mem_range'_1];constructor
 ·rintro⟨k,⟨h1,h2⟩,h3⟩;exact⟨k,h1,by omega,h3⟩
 ·rintro⟨k,h1,h2,h3⟩;exact⟨k,⟨h1,by omega⟩,h3⟩
theorem Qi{g:Gr}(h:Rt g){e:Ed}:e∈Av g↔∃i,i<Ad g∧e∈Lw g i:=by
 rw[CM h,FO,List.mem_flatMap,Ap h];simp only[Cg]
theorem eN{g:Gr}(h:Rt g)(x y:Nat):(Zc g h).E x y↔Eg g x y:=by
 have hn:=Ap h;constructor
 ·rintro⟨hx,k,h1,h2,h3⟩;have hx':x<Ad g:=hx;have ht:=h.stTop (i:=x+1) (by omega);have h2':k<st g (x+1):=h2;have:=h.tos k (by omega);have h3':(g.T.getD k 0).toNat=y:=h3;exact⟨edge g x k,(Qi h).2 ⟨x,hx,UQ.2 ⟨k,h1,h2,rfl⟩⟩,rfl,show g.T.getD k 0=(y:Int) by omega⟩
 ·rintro⟨e,he,h1,h2⟩;obtain⟨i,hi,he⟩:=(Qi h).1 he;obtain⟨k,k1,k2,rfl⟩:=UQ.1 he;have e1:(i:Int)=(x:Int):=h1;obtain rfl:i=x:=by omega
  have h2':g.T.getD k 0=(y:Int):=h2;exact⟨hi,k,k1,k2,show(g.T.getD k 0).toNat=y by omega⟩
theorem Wm{g:Gr}(h:Rt g):(Zc g h).E=Eg g:=by
 funext x y
 exact propext (eN h x y)
theorem WB{g:Gr}(h:Rt g){s:TS}{num0:Nat→Int}(hI:AX (Zc g h) num0 s)(hc:s.calls=[])(hs:∀x,x<Ad g→0≤s.num x):
 (DZ (Gh s.part) (Ad g)).1=GM g:=by
 refine Hu fun i k hi hk=>?_;have:=hI.inv.partEq i k (hs i hi) (hI.off hc i) (hs k (by omega)) (hI.off hc k);rw[Wm h]at this;simpa[Gh,SC]using this
theorem dA(n:Nat):madeCells #[Value.int .i64 0] n=ints (BV n (fun _=>0)):=by
 have:BV n (fun _=>(0:Int))=List.replicate n 0:=by unfold BV;simp[List.map_const']
 rw[this,Ge,← DP]
theorem dO(n:Nat):madeCells #[Value.bool false] n=bools (BV n (fun _=>false)):=by
 have:BV n (fun _=>false)=List.replicate n false:=by unfold BV;simp[List.map_const']
 rw[this,BJ,← DP]
def ZI(wr:World)(n:Nat)(v:Value)(w':World):Prop:=∃b,v=GJ b n∧wr.heap.size≤b∧w'.heap[b]?=some (.cells (ints (BV n (fun _=>0))) 3 (0,0))
def ZB(wr:World)(n:Nat)(v:Value)(w':World):Prop:=∃b,v=GJ b n∧wr.heap.size≤b∧w'.heap[b]?=some (.cells (bools (BV n (fun _=>false))) 4 (0,0))
structure Zx(wr w':World)(n bn bl bo bp:Nat):Prop where
 hn:w'.heap[bn]?=some (.cells (ints (BV n (fun _=>0))) 3 (0,0))
 hl:w'.heap[bl]?=some (.cells (ints (BV n (fun _=>0))) 3 (0,0))
 ho:w'.heap[bo]?=some (.cells (bools (BV n (fun _=>false))) 4 (0,0))
 hp:w'.heap[bp]?=some (.cells (ints (BV n (fun _=>0))) 3 (0,0))
 d:(wr.heap.size≤bn∧wr.heap.size≤bl∧wr.heap.size≤bo∧wr.heap.size≤bp)∧bn≠bl∧bn≠bo∧bn≠bp∧bl≠bo∧bl≠bp∧bo≠bp
def eW(i:Nat):Bool:=i==2 || i==4 || i==6 || i==8
def VW(w wr:World)(gS gA gT:Value)(n:Nat)(i:Nat)(v:Value)(w':World):Prop:=
 match i with
 | 0=>v=.agg #[gS,gA,gT]
 | 2=>ZI wr n v w'
 | 4=>ZI wr n v w'
 | 6=>ZB wr n v w'
 | 8=>ZI wr n v w'
 | 9=>∃bn bl bo bp,v=.agg #[gS,gA,gT,GJ bn n,GJ bl n,GJ bo n,.slice none 0 0,GJ bp n,.int .i64 0,.slice none 0 0]∧Zx wr w' n bn bl bo bp
 | 10=>∃sb bn bl bo bp base,v=.pointer (some ⟨sb,0,none⟩)∧Ex w w' gS gA gT sb bn bl bo bp base n (fun _=>0) (fun _=>0) (fun _=>false) [] (fun _=>0) 0 [] (.slice none 0 0) (.slice none 0 0)
 | 11=>∃sb bn bl bo bp base,v=.pointer (some ⟨sb,0,none⟩)∧Ex w w' gS gA gT sb bn bl bo bp base n (fun _=>0) (fun _=>0) (fun _=>false) [] (fun _=>0) 0 [] (.slice none 0 0) (.slice none 0 0)
 | _=>v=.int .i64 (n:Nat)
def Xs(i j:Nat)(u v:Value):Prop:=eW i=true→eW j=true→u.ownBlock≠v.ownBlock
theorem Zd{w wr:World}{gS gA gT:Value}{n i:Nat}{u:Value}{a b:World}(hb:Below a.heap.size a b)(h:VW w wr gS gA gT n i u a):VW w wr gS gA gT n i u b:=by
 unfold VW at h ⊢;split at h
 ·exact h
 ·obtain⟨x,e,hx,hh⟩:=h;exact⟨x,e,hx,Ah hb hh⟩
 ·obtain⟨x,e,hx,hh⟩:=h;exact⟨x,e,hx,Ah hb hh⟩
 ·obtain⟨x,e,hx,hh⟩:=h;exact⟨x,e,hx,Ah hb hh⟩
 ·obtain⟨x,e,hx,hh⟩:=h;exact⟨x,e,hx,Ah hb hh⟩
 ·obtain⟨x,y,z,t,e,h⟩:=h;exact⟨x,y,z,t,e,Ah hb h.hn,Ah hb h.hl,Ah hb h.ho,Ah hb h.hp,h.d⟩
 ·obtain⟨s,x,y,z,t,q,e,h⟩:=h;exact⟨s,x,y,z,t,q,e,h.more hb⟩
 ·obtain⟨s,x,y,z,t,q,e,h⟩:=h;exact⟨s,x,y,z,t,q,e,h.more hb⟩
 ·exact h
theorem IC{w wr:World}{gS gA gT:Value}{n j:Nat}{w':World}{v:Value}(h:eW j=false):∀i u,i≠j→VW w wr gS gA gT n i u w'→Xs i j u v∧Xs j i v u:=
 fun i u _ _=>⟨fun _ h2=>(by rw[h]at h2;cases h2),fun h2 _=>(by rw[h]at h2;cases h2)⟩
theorem XY{w wr:World}{gS gA gT:Value}{n i:Nat}{u:Value}{w':World}(hi:eW i=true)(h:VW w wr gS gA gT n i u w'):∃b,u=GJ b n∧wr.heap.size≤b∧b<w'.heap.size:=by
 have:i=2∨i=4∨i=6∨i=8:=by simpa[eW,or_assoc]using hi
 rcases this with rfl | rfl | rfl | rfl
 all_goals
  obtain⟨b,e,hb,hh⟩:=h;exact⟨b,e,hb,(BO.1 hh).1⟩
theorem MA{w wr:World}{gS gA gT:Value}{j:Nat}{w':World}(n:Nat):∀i u,i≠j→VW w wr gS gA gT n i u w'→Xs i j u (GJ w'.heap.size n)∧Xs j i (GJ w'.heap.size n) u:=by
 intro i u _ h;refine⟨fun hi _ e=>?_,fun _ hi e=>?_⟩
 ·obtain⟨b,rfl,-,hb⟩:=XY hi h;simp[Value.ownBlock]at e;omega
 ·obtain⟨b,rfl,-,hb⟩:=XY hi h;simp[Value.ownBlock]at e;omega
theorem MV(w wr:World)(gS gA gT:Value)(n:Nat)(w':World)(hw:wr.heap.size≤w'.heap.size)(i:Nat)(hi:i=2∨i=4∨i=8):VW w wr gS gA gT n i (GJ w'.heap.size n) (w'.alloc (.cells (madeCells #[.int .i64 0] n) 3)):=by
 have:ZI wr n (GJ w'.heap.size n) (w'.alloc (.cells (madeCells #[.int .i64 0] n) 3)):=⟨_,rfl,hw,by rw[Ar,dA]⟩;rcases hi with rfl | rfl | rfl <;> exact this
theorem YO(w wr:World)(gS gA gT:Value)(n:Nat)(w':World)(hw:wr.heap.size≤w'.heap.size)(i:Nat)(hi:i=6):VW w wr gS gA gT n i (GJ w'.heap.size n) (w'.alloc (.cells (madeCells #[.bool false] n) 4)):=by
 subst hi;exact⟨_,rfl,hw,by rw[Ar,dO]⟩
theorem bY {w wr:World} {gS gA gT:Value} {n:Nat} {w':World} {a b c e:Value} (h2:VW w wr gS gA gT n 2 a w') (h4:VW w wr gS gA gT n 4 b w') (h6:VW w wr gS gA gT n 6 c w') (h8:VW w wr gS gA gT n 8 e w')
 (s1:Xs 2 4 a b) (s2:Xs 2 6 a c) (s3:Xs 2 8 a e) (s4:Xs 4 6 b c) (s5:Xs 4 8 b e) (s6:Xs 6 8 c e):
 ∃bn bl bo bp,a=GJ bn n∧b=GJ bl n∧c=GJ bo n∧e=GJ bp n∧Zx wr w' n bn bl bo bp:=by
 obtain⟨bn,rfl,l1,g1⟩:=h2;obtain⟨bl,rfl,l2,g2⟩:=h4;obtain⟨bo,rfl,l3,g3⟩:=h6;obtain⟨bp,rfl,l4,g4⟩:=h8;have t1:=s1 rfl rfl;have t2:=s2 rfl rfl;have t3:=s3 rfl rfl;have t4:=s4 rfl rfl;have t5:=s5 rfl rfl;have t6:=s6 rfl rfl;simp[Value.ownBlock]at t1 t2 t3 t4 t5 t6;exact⟨bn,bl,bo,bp,rfl,rfl,rfl,rfl,g1,g2,g3,g4,⟨l1,l2,l3,l4⟩,t1,t2,t3,t4,t5,t6⟩
theorem dF{w wr w':World}{n bn bl bo bp:Nat}{gS gA gT:Value}(h0:Below w.heap.size w wr)(hb:Below wr.heap.size wr w')(h:Zx wr w' n bn bl bo bp):
 Ex w (w'.alloc (.cells #[gS,gA,gT,GJ bn n,GJ bl n,GJ bo n,.slice none 0 0,GJ bp n,.int .i64 0,.slice none 0 0] 157)) gS gA gT w'.heap.size bn bl bo bp (w'.heap.size+1) n (fun _=>0) (fun _=>0) (fun _=>false) [] (fun _=>0) 0 [] (.slice none 0 0) (.slice none 0 0):=by
 have hk:=Ae w' (.cells #[gS,gA,gT,GJ bn n,GJ bl n,GJ bo n,.slice none 0 0,GJ bp n,.int .i64 0,.slice none 0 0] 157);have z0:=h0.size;have z1:=hb.size;have l1:=(BO.1 h.hn).1;have l2:=(BO.1 h.hl).1;have l3:=(BO.1 h.ho).1;have l4:=(BO.1 h.hp).1;obtain⟨d1,d2⟩:=h.d;exact⟨(h0.trans (hb.mono z0)).trans (hk.mono (by omega)),Ar _ _,Ah hk h.hn,Ah hk h.hl,Ah hk h.ho,Ah hk h.hp,CO _ _ _ _,CO _ _ _ _,
  ⟨by omega,by omega,by omega⟩,by simp⟩
section
variable {w wr:World} {gS gA gT:Value} {sb bn bl bo bp base n:Nat} {num num' low:Nat→Int} {on:Nat→Bool} {nodes:List Nat} {part:Nat→Int} {parts:Nat} {calls:List (Nat×Nat)} {nv cv:Value}
theorem Cs{α:Type}{f f':Nat→α}(h:∀x,x<n→f x=f' x):BV n f=BV n f':=by
 unfold BV;exact List.map_congr_left fun x hx=>h x (Cg.1 hx)
theorem Ex.numEq(h:Ex w wr gS gA gT sb bn bl bo bp base n num low on nodes part parts calls nv cv)(e:∀x,x<n→num x=num' x):Ex w wr gS gA gT sb bn bl bo bp base n num' low on nodes part parts calls nv cv:=
 ⟨h.below,h.hs,by rw[← Cs e];exact h.hn,h.hl,h.ho,h.hp,h.rn,h.rc,h.d,h.hb⟩
end
structure Ms(w wr:World)(sb bp n:Nat)(part:Nat→Int):Prop where
 below:Below w.heap.size w wr
 hs:∃c,c[7]?=some (GJ bp n)∧wr.heap[sb]?=some (.cells c 157 (0,0))
 hp:wr.heap[bp]?=some (.cells (ints (BV n part)) 3 (0,0))
 d:w.heap.size≤sb∧w.heap.size≤bp∧sb≠bp
theorem Ex.pt {w wr:World} {gS gA gT:Value} {sb bn bl bo bp base n:Nat} {num low:Nat→Int} {on:Nat→Bool} {nodes:List Nat} {part:Nat→Int} {parts:Nat} {calls:List (Nat×Nat)} {nv cv:Value}
 (h:Ex w wr gS gA gT sb bn bl bo bp base n num low on nodes part parts calls nv cv):Ms w wr sb bp n part:=
 ⟨h.below,⟨_,rfl,h.hs⟩,h.hp,by obtain⟨d1,d2,d3⟩:=h.d;omega⟩
section
variable {w wr w':World} {sb bp n:Nat} {part:Nat→Int}
theorem Ms.drew(h:Ms w wr sb bp n part):Ms w wr.drew sb bp n part:=⟨h.below.drew,h.hs,h.hp,h.d⟩
theorem Ms.more(h:Ms w wr sb bp n part)(hb:Below wr.heap.size wr w'):Ms w w' sb bp n part:=by
 obtain⟨c,hc,hs⟩:=h.hs;exact⟨h.below.trans (hb.mono h.below.size),⟨c,hc,Ah hb hs⟩,Ah hb h.hp,h.d⟩
theorem Ms.grown(h:Ms w wr sb bp n part){mb:Nat}(hg:wr.grownBy w' (some mb))(hm:w.heap.size≤mb)(h1:mb≠sb)(h2:mb≠bp):Ms w w' sb bp n part:=by
 obtain⟨c,hc,hs⟩:=h.hs;have hf:Bn (fun q=>q=mb) wr w':=(Bn.refl _ wr).grown hg (fun k hk _=>by cases hk;rfl);exact⟨h.below.grown hg h.below.size (fun k hk=>by cases hk;exact hm),⟨c,hc,hf.heap hs (fun e=>h1 e.symm)⟩,hf.heap h.hp (fun e=>h2 e.symm),h.d⟩
theorem Ms.set(h:Ms w wr sb bp n part)(k:Nat)(v:Int):Ms w (wr.setCell ⟨bp,k,none⟩ (.int .i64 v)) sb bp n (Bx part k v):=by
 obtain⟨c,hc,hs⟩:=h.hs;obtain⟨d1,d2,d3⟩:=h.d;have hf:Bn (fun q=>q=bp) wr (wr.setCell ⟨bp,k,none⟩ (.int .i64 v)):=(Bn.refl (fun q=>q=bp) wr).setCell (p:=⟨bp,k,none⟩) (fun _=>rfl) _;refine⟨h.below.setCell (p:=⟨bp,k,none⟩) d2 _,⟨c,hc,hf.heap hs d3⟩,?_,h.d⟩;rw[Ac h.hp,Fc,Gq]
theorem Ms.cell(h:Ms w wr sb bp n part){k:Nat}(hk:k<n):wr.cell? ⟨bp,k,none⟩=some (.int .i64 (part k)):=by
 have:=Ab h.hp k _ (Bw _ k (by rw[AJ];exact hk));rwa [BW _ _ _ _ hk]at this
theorem Ms.free(h:Ms w wr sb bp n part)(k:Nat):wr.frozen? ⟨bp,k,none⟩=false:=Ag h.hp k
theorem Ms.f7(h:Ms w wr sb bp n part):wr.cell? ⟨sb,7,none⟩=some (GJ bp n):=by
 obtain⟨c,hc,hs⟩:=h.hs;exact Ab hs 7 _ hc
theorem Ms.same(h:Ms w wr sb bp n part){part':Nat→Int}(e:∀x,x<n→part x=part' x):Ms w wr sb bp n part':=
 ⟨h.below,h.hs,by rw[← Cs e];exact h.hp,h.d⟩
end
def Oy(part:Nat→Int)(i:Nat):Int→Option Int:=fun p=>((List.range i).find? (fun k=>decide (p=part k))).map (fun k=>((Mp (Gh part) k:Nat):Int))
def Lz(part:Nat→Int)(i:Nat):Nat→Int:=fun k=>if k<i then((Mp (Gh part) k:Nat):Int) else part k
theorem XP(part:Nat→Int)(i:Nat):(Oy part i (part i)).isSome=((List.range i).find? (fun k=>Gh part i k)).isSome:=by
 simp[Oy,Gh]
theorem dJ{part:Nat→Int}{i:Nat}(h:(Oy part i (part i)).isSome=true):Oy part i (part i)=some ((Mp (Gh part) i:Nat):Int)∧Oy part (i+1)=Oy part i∧(DZ (Gh part) (i+1)).2=(DZ (Gh part) i).2:=by
 rw[XP]at h;obtain⟨k,hk⟩:=Option.isSome_iff_exists.1 h;have e1:Oy part i (part i)=some ((Mp (Gh part) i:Nat):Int):=by
  rw[NR hk];show Option.map _ ((List.range i).find? (fun k=>Gh part i k))=_;rw[hk];rfl
 refine⟨e1,?_,EZ hk⟩
 funext p
 unfold Oy;rw[List.range_succ,List.find?_append];by_cases e:p=part i
 ·have:(List.range i).find? (fun k=>decide (p=part k))=some k:=by rw[e];exact hk
  rw[this];rfl
 ·rcases(List.range i).find? (fun k=>decide (p=part k)) with _ | j
  ·simp[e]
  ·rfl
theorem fB{part:Nat→Int}{i:Nat}(h:(Oy part i (part i)).isSome=false):(fun x=>if x=part i then some (((DZ (Gh part) i).2:Nat):Int) else Oy part i x)=Oy part (i+1)∧(DZ (Gh part) (i+1)).2=(DZ (Gh part) i).2+1∧
 Oy part (i+1) (part i)=some ((Mp (Gh part) i:Nat):Int)∧(((DZ (Gh part) i).2:Nat):Int)=((Mp (Gh part) i:Nat):Int):=by
 rw[XP]at h;have hk:(List.range i).find? (fun k=>Gh part i k)=none:=by simpa using h
 have e0:Oy part (i+1) (part i)=some ((Mp (Gh part) i:Nat):Int):=by
  unfold Oy;rw[List.range_succ,List.find?_append];have:(List.range i).find? (fun k=>decide (part i=part k))=none:=hk;rw[this];simp
 refine⟨?_,Fa hk,e0,by rw[IO hk]⟩
 funext p
 by_cases e:p=part i
 ·rw[if_pos e,e,e0,IO hk]
 ·rw[if_neg e];unfold Oy;rw[List.range_succ,List.find?_append];rcases(List.range i).find? (fun k=>decide (p=part k)) with _ | j
  ·simp[e]
  ·rfl
theorem PX(part:Nat→Int)(i:Nat):Bx (Lz part i) i ((Mp (Gh part) i:Nat):Int)=Lz part (i+1):=by
 funext k
 by_cases e:k=i
 ·rw[e,AS];simp[Lz]
 ·rw[AE _ _ _ _ e];unfold Lz;by_cases h:k<i
  ·rw[if_pos h,if_pos (by omega)]
  ·rw[if_neg h,if_neg (by omega)]
theorem Xc(k:Nat)(x:Nat):Bx (fun x=>if x<k then(-1:Int) else 0) k (-1) x=if x<k+1 then -1 else 0:=by
 by_cases e:x=k
 ·rw[e,AS,if_pos (by omega)]
 ·rw[AE _ _ _ _ e];by_cases h:x<k
  ·rw[if_pos h,if_pos (by omega)]
  ·rw[if_neg h,if_neg (by omega)]
def ZG:TS:=⟨fun _=>-1,fun _=>0,fun _=>false,[],fun _=>0,0,[],0⟩
theorem Xt(G:TG):AX G (fun _=>-1) ZG:=by
 refine⟨⟨fun x=>.inl rfl,fun x y h=>?_,fun x=>by simp[ZG],List.Pairwise.nil,fun x h=>?_,fun c h=>?_,List.Pairwise.nil,fun c h=>?_,fun c h=>?_,fun x y h=>?_,fun x k h=>?_,fun x h=>?_,fun x h=>?_,fun x h=>?_,fun c h=>?_,fun x h=>?_,fun x h=>?_,fun x y h=>?_⟩,?_,?_,fun x h=>?_⟩;all_goals first
  | (simp[ZG]at h;done)
  | (simp[ZG];done)
  | skip
 have:∀n,Db n ZG.num=n:=fun n=>by
  induction n with
  | zero=>rfl
  | succ n ih=>rw[Fo,ih];simp[ZG]
 rw[this];simp[ZG]
section
variable {P:Program} {ops:Array Oper} {md:Region.Mode} {C:World→Prop}
def Kn(P:Program)(md:Region.Mode)(ops:Array Oper)(C:World→Prop)(n:Nat)(L:Array Bool→Act→Prop):Nat→Array Bool→Act→Prop
 | 0,listed,a=>L listed a
 | f+1,listed,a=>
  Region.ready md ops listed≠[]∧∀i∈Region.ready md ops listed,i<n∧qOp P ops C i (Kn P md ops C n L f (listed.setIfInBounds i true)) a
theorem IX{n g:Nat}{L:Array Bool→Act→Prop}{Q':Exit→Act→World→Prop}(hL:∀listed a w,C w→L listed a→wpAny P md ops Q' g listed a w):
 ∀(f:Nat) (listed:Array Bool) (a:Act) (w:World),C w→Kn P md ops C n L f listed a→wpAny P md ops Q' (f+g) listed a w
 | 0,listed,a,w,hw,h=>by rw[Nat.zero_add];exact hL _ _ _ hw h
 | f+1,listed,a,w,hw,h=>by
  rw[show f+1+g=(f+g)+1 by omega];exact⟨fun h0=>absurd h0 h.1,fun i hi=>wpOp_of_qOp hw (fun a' w' hw' h'=>IX hL f _ a' w' hw' h') (h.2 i hi).2⟩
theorem OJ {n i:Nat} {oi:Oper} {v:Value} {L:Array Bool→Act→Prop} (hi:ops[i]?=some oi) (hsel:∀(j:Nat) (o:Oper) cs b,ops[j]?=some o→o.op≠.select cs b)
 (hs:Region.sinkB md ops n=true) (hc:Region.chainB md ops n=true) (hn:n<ops.size) (hin:i<n)
 (hdone:∀listed a,L listed a→∀j∈Region.ready md ops listed,n≤j):
 ∀(f:Nat) (listed:Array Bool) (a:Act),HeadInv md ops n listed→
  (∀j oj,ops[j]?=some oj→j≠i→listed.getD j true=false→(∀e∈oj.after,Region.binds md e=true→e.on≠i)→oi.apart ops oj=true)→
  i∈Region.ready md ops listed→YieldsIn P ops C oi v a→
  Kn P md ops C n L f (listed.setIfInBounds i true) (a.put oi.dst v)→Kn P md ops C n L (f+1) listed a:=by
 intro f
 induction f with
 | zero=>
  intro listed a inv _ hr hy H;have hun:=(mem_ready.1 hr).1;refine⟨fun h=>(by rw[h]at hr;cases hr),fun j hj=>?_⟩;have hjn:j<n:=by
   rcases Nat.lt_or_ge j n with h | h
   ·exact h
   ·exact absurd hj (tail_waits hs hc hn inv _ i rfl hin hun j h)
  refine⟨hjn,?_⟩;by_cases hji:j=i
  ·subst hji;exact hy.qOp hi H
  ·have:=hdone _ _ H j (ready_mono hj hji);omega
 | succ f ih=>
  intro listed a inv hfree hr hy H;have hun:=(mem_ready.1 hr).1;refine⟨fun h=>(by rw[h]at hr;cases hr),fun j hj=>?_⟩;have hjn:j<n:=by
   rcases Nat.lt_or_ge j n with h | h
   ·exact h
   ·exact absurd hj (tail_waits hs hc hn inv _ i rfl hin hun j h)
  refine⟨hjn,?_⟩;by_cases hji:j=i
  ·subst hji;exact hy.qOp hi H
  ·have h1:=(H.2 j (ready_mono hj hji)).2;obtain⟨hjun,oj,hoj,hall⟩:=mem_ready.1 hj;have hnot:∀e∈oj.after,Region.binds md e=true→e.on≠i:=fun e he hb heq=>by
    have h1:=hall e he hb;rw[heq,getD_both hun]at h1;cases h1
   have h2:=qOp_put hoj (hfree j oj hoj hji hjun hnot) (fun cs b=>hsel i oi cs b hi) (fun cs b=>hsel j oj cs b hoj) hy h1;have hfree':∀k ok,ops[k]?=some ok→k≠i→(listed.setIfInBounds j true).getD k true=false→
    (∀e∈ok.after,Region.binds md e=true→e.on≠i)→oi.apart ops ok=true:=fun k ok hk hki hun hno=>by
    refine hfree k ok hk hki ?_ hno;by_cases hjk:j=k
    ·subst hjk;exact hjun
    ·rw[getD_set_ne true hjk]at hun;exact hun
   refine qOp_mono (fun a' h3=>ih (listed.setIfInBounds j true) a' (inv.set hj hjn) hfree' (ready_mono hr (Ne.symm hji)) h3.1 ?_) h2;rw[Array.setIfInBounds_comm _ _ hji];exact h3.2
theorem LW{n g:Nat}{Lq:Act→Prop}(hsel:Region.noSelect ops=true)(hs:Region.sinkB md ops n=true)(hc:Region.chainB md ops n=true)(hn:n<ops.size):
 ∀(l:List Oper) (k:Nat) (listed:Array Bool) (a:Act),(∀j,j<l.length→l[j]?=ops[k+j]?)→k+l.length=n→HeadInv md ops n listed→
 Region.lexHead md ops g l.length k listed=true→wpQuiet P ops C Lq l a→
 Kn P md ops C n (fun listed' a'=>Region.seqB md ops g n listed'=true∧Lq a') l.length listed a
 | [],k,listed,a,_,hk,_,hB,h=>by
  have:k=n:=by simpa using hk
  subst this;exact⟨by simpa[Region.lexHead]using hB,h⟩
 | o::l,k,listed,a,hl,hk,inv,hB,h=>by
  have h0:ops[k]?=some o:=by simpa using(hl 0 (by simp)).symm
  simp only[List.length_cons,Region.lexHead,Ci]at hB;obtain⟨⟨hr,hf⟩,hB'⟩:=hB;have hkn:k<n:=by simp only[List.length_cons]at hk;omega
  have hr':k∈Region.ready md ops listed:=by simpa using hr
  have hst:qOp P ops C k (wpQuiet P ops C Lq l) a:=by unfold qOp;simp only[h0];exact h
  obtain⟨v,hy,hK⟩:=yieldsIn_of_qOp h0 hst;exact OJ h0 (Region.noSelect_spec hsel) hs hc hn hkn (fun listed' a' hL=>seqB_ready hL.1) l.length listed a inv (Region.free_spec h0 hf) hr' hy
   (LW hsel hs hc hn l (k+1) _ _ (fun j hj=>by have:=hl (j+1) (by simp;omega);simpa[Nat.add_assoc,Nat.add_comm 1 j]using this) (by simp only[List.length_cons]at hk;omega) (inv.set hr' hkn) hB' hK)
theorem Dh {id:Nat} {Q:Exit→Act→World→Prop} {a:Act} {w:World} {l:List Oper} (n:Nat) (hm:P.follows .mixedOrders=true) (hB:Region.lexTailB .any l.toArray n=true)
 (h:wpQuiet P l.toArray (fun w'=>∃i:Bk w,w'=i.1) (fun a'=>∀w',Below w.heap.size w w'→wpList P l.toArray Q (l.drop n) a' w') (l.take n) a):(Code.region id l.toArray true).wp P Q a w:=by
 simp only[Region.lexTailB,Ci,decide_eq_true_eq]at hB;obtain⟨⟨⟨⟨hsel,hn⟩,hs⟩,hc⟩,hlex⟩:=hB;have hn':n<l.length:=by simpa using hn
 have htl:(l.take n).length=n:=by simp;omega
 have hdl:(l.drop n).length=l.toArray.size - n:=by simp
 have inv0:HeadInv .any l.toArray n (Array.replicate l.toArray.size false):=
  ⟨by simp,fun j oj _ hl=>(by rw[getD_replicate_false]at hl;cases hl),fun t _ ht=>getD_in (by simpa using ht) (getD_replicate_false _ _)⟩
 have H:=LW (md:=.any) (g:=l.toArray.size - n) hsel hs hc hn (l.take n) 0 _ a (fun j hj=>by
  have hj':j<n:=by rw[htl]at hj;exact hj
  simp[hj']) (by simpa using htl) inv0 (by rw[htl];exact hlex) h
 refine wp_region_any hm ?_;have:=IX (Q':=Q) (g:=l.toArray.size - n) (fun listed a' w' hw' hL=>by
  have:=wpAny_of_seq (P:=P) (ops:=l.toArray) (md:=.any) (Q':=Q) (l.drop n) n listed a' w' (fun j=>by simp[List.getElem?_drop]) (by rw[hdl];exact hL.1) (by obtain⟨i,rfl⟩:=hw';exact hL.2 _ i.2);rwa [hdl]at this) _ _ _ {w with drawn:=w.drawn+1} ⟨⟨w.drew,(Ak _ _).drew⟩,rfl⟩ H
 rw[htl,show n+(l.toArray.size - n)=l.toArray.size by omega]at this;exact this
end
theorem Lv{w1 wr:World}{v:Value}{l:List Ed}(hb:Below w1.heap.size w1 wr){n:Nat}(ho:wr.ownsRow w1.heap.size 54 3 v n (AA l)){o:Obj}{w4:World}(hg:((wr.alloc o).drew).grownBy w4 v.ownBlock):Below w1.heap.size w1 w4:=
 ((hb.alloc hb.size o).drew).grown hg (hb.alloc hb.size o).size (fun k hk=>(ho.lt k hk).1)
theorem Jj{w:World}{B:Nat}{v:Value}{l l':List Ed}{e:Ed}(hX:l'=l++[e]){n:Nat}(h:w.ownsRow B 54 3 v (n+1) (AA l++[.int .i64 e.1,.int .i64 e.2.1,.int .i64 e.2.2])):w.ownsRow B 54 3 v (n+1) (AA l'):=by
 subst hX;rw[IV];simpa[AA]using h
theorem ZO(v:Value)(g:Gr)(i:Int)(w:World)(h:Ao w v g):Calls Tryz.prog 31 #[v,.int .i64 i] w (Jg w (AR g i)):=by
 have h4:=h.sS;have h6:=h.sT;obtain⟨sa,aa,ta,sc,ac,tc,rfl,hv⟩:=h.var;have hb:=Ae w (.cells #[.slice sa g.S.length sc,.slice aa g.A.length ac,.slice ta g.T.length tc] 32);have HN:=Aa (El _ g _ (h.below hb));by_cases h0:i<0
 ·have e:AR g i=[]:=by unfold AR;rw[if_neg (by omega)]
  rw[e];have HB:=Aa hb;clear h hv hb;go_enter Tryz.func31,Tryz.ntmps31;go_wp2_with fail
  go_ret;exact⟨_,rfl,Eh _,HB.out⟩
 ·by_cases h1:i<(Ad g:Int)
  ·have hR:Rt g:=by
    cases hh:Bj g
    ·rw[Cp hh]at h1;omega
    ·exact(Aq g).1 hh
   have hn:=Ap hR;obtain⟨k,rfl⟩:∃k:Nat,i=(k:Int):=⟨i.toNat,by omega⟩;have hk:k+1<g.S.length:=by omega
   have e:AR g k=Lw g k:=by unfold AR;rw[if_pos ⟨(Aq g).2 hR,by omega,by omega⟩];simp
   rw[e];clear e;have hsl:=hR.stLe (i:=k) (j:=k+1) (by omega) (by omega);have hst:=hR.stTop (i:=k+1) (by omega);obtain⟨i0,hi0,hz0,hz1,hz2⟩:=CE Tryz.info54;have s0:=hv.hs k (by omega);rw[hR.st (by omega)]at s0;have s1:=hv.hs (k+1) hk;rw[hR.st hk]at s1;obtain⟨b,off,rfl,s0⟩:=s0;obtain⟨b',off',e,s1⟩:=s1;cases e;have c0:=hv.c0;have HB:=Aa hb;have HR:=Aa hR;have HV:=Aa hv;have hnk:¬Ad g≤k:=by omega
   clear h hv hb hR hn;go_enter Tryz.func31,Tryz.ntmps31;go_wp2_with (first
    | (go_at_call 30;refine HN.out.mono ?_;rintro e w1 ⟨rfl,hb1⟩;obtain⟨x0,y0,y1⟩:=JN hb1 c0 s0 s1;have HV1:=Aa (HV.out.below hb1);have HB1:=Aa (HB.out.trans (hb1.mono HB.out.size));clear hb1 c0 s0 s1))
   obtain⟨len,hlen⟩:∃n:Nat,st g (k+1)=st g k+n:=⟨st g (k+1) - st g k,by omega⟩;rw[hlen]at y1;have heds:Lw g k=Dy g k len:=by unfold Lw;congr 1;omega
   have HED:=Aa heds;clear heds;go_loopg [5,6] len (fun fu v c wr=>∃r:Nat,r+fu=len∧c=.int .i64 (st g k+r:Nat)∧wr.ownsRow w1.heap.size 54 3 v r (AA (Dy g k r))∧Below w1.heap.size w1 wr)
   case atStart=>exact⟨0,by omega,rfl,⟨rfl,.inl ⟨rfl,rfl⟩⟩,Ak _ _⟩
   case round=>
    obtain⟨r,hr,rfl,ho,hb⟩:=hrel;have z0:=Af hb x0;have z1:=Af hb y1;have e1:IntKind.i64.wrap ((k:Int)+1)=((k+1:Nat):Int):=by rw[DS _ (by omega)];simp
    by_cases hlt:r<len
    ·generalize hp:st g k+r=p at*;have hkT:p<g.T.length:=by omega
     have hkA:p<g.A.length:=by rw[HR.out.lens];exact hkT
     have c1:=Af hb HV1.out.c1;have c2:=Af hb HV1.out.c2;obtain⟨ba,oa,rfl,a0⟩:=HV1.out.ha p hkA;obtain⟨bt,ot,rfl,t0⟩:=HV1.out.ht p hkT;have a1:=Af hb a0;have t1:=Af hb t0;have hnext:Dy g k (r+1)=Dy g k r++[edge g k p]:=by rw[Jm,hp]
     have b1:(p:Int)<(g.A.length:Int):=by omega
     have b2:(p:Int)<(g.T.length:Int):=by omega
     have b3:(p:Int)<(st g k:Int)+(len:Int):=by omega
     have hedge:edge g k p=((k:Int),g.A.getD p 0,g.T.getD p 0):=rfl;rw[hedge]at hnext;generalize g.A.getD p 0=xa at*;generalize g.T.getD p 0=xt at*;have HO:=Aa ho;have HBB:=Aa hb;have HP:=Aa hp;have HX:=Aa hnext;have hsz:=hb.size;have M1:Hid (r+1≤maxLen):=Aa (by unfold maxLen;omega);have M2:Hid ((r+1)*24≤140737488355328):=Aa (by omega);clear ho hb hp hnext hedge a0 t0 hlen;go_wp2_with fail
     go_region_law (refine step_append_lies ((wr.alloc (.cells #[.int .i64 k,.int .i64 xa,.int .i64 xt] 54)).drew) rfl (.tmp 30) (.tmp 43) 55 rfl w1.heap.size 54 i0 (.agg #[.int .i64 0,.int .i64 0,.int .i64 0]) 3 24 Tryz.underlying55 hi0 hz0 hz1 hz2 rfl (by decide) u5 r (AA (Dy g k r)) (by simp[Act.eval]) (HO.out.alloc _) ⟨wr.heap.size,0,none⟩ 1 1 [.int .i64 k,.int .i64 xa,.int .i64 xt] (by simp[Act.eval]) rfl (World.news_of_block (Ar wr _)) (by simp[Value.oneCell']) Nat.one_pos M1.out M2.out (HBB.out.alloc HBB.out.size _).size (wr.heap.size+1) (by simp) ?_;intro g2 cap2 w4 hown2 hgr2 hor2 hlt2;have HB4:=Aa (Lv HBB.out HO.out hgr2);have HO4:=Aa hown2;clear hgr2 hown2)
     clear e1;all_goals go_wp2_with fail
     all_goals go_roundg (gk - 1)
     all_goals first
      | omega
      | exact⟨r+1,by omega,by have:=HP.out;simp;omega,Jj HX.out HO4.out,HB4.out⟩
    ·obtain rfl:gk=0:=by omega
     obtain rfl:r=len:=by omega
     have Q:=Aa (And.intro (BC (l:=Dy g k r) (by rw[Ho];exact ho)) hb);clear ho hb e1;go_wp2_with fail
     go_ret;exact⟨_,rfl,HED.out▸Q.out.1,HB1.out.trans (Q.out.2.mono HB1.out.size)⟩
  ·have e:AR g i=[]:=by
    unfold AR;rw[if_neg];rintro⟨e1,e2,e3⟩;rw[Ap ((Aq g).1 e1)]at h1;omega
   rw[e];have HB:=Aa hb;clear h hb hv e;go_enter Tryz.func31,Tryz.ntmps31;go_wp2_with (first
    | (go_at_call 30;refine HN.out.mono ?_;rintro e w1 ⟨rfl,hb1⟩;have HB1:=Aa (HB.out.trans (hb1.mono HB.out.size));clear hb1))
   go_ret;exact⟨_,rfl,Eh _,HB1.out⟩
def IR(w:World)(l:List Ed)(e:Ending)(w':World):Prop:=∃v,e=.returned v∧w'.ownsRow w.heap.size 54 3 v l.length (AA l)∧Below w.heap.size w w'
theorem IR.back{w:World}{l:List Ed}{e:Ending}{w':World}(h:IR w l e w'):Jg w l e w':=let ⟨v,h1,h2,h3⟩:=h;⟨v,h1,BC h2,h3⟩
theorem FG{w:World}{b b':Nat}{e:TypeId}{size:Nat}{v:Value}{n:Nat}{xs:List Value}(h:w.ownsRow b e size v n xs)(hb:b'≤b):w.ownsRow b' e size v n xs:=by
 refine⟨h.1,?_⟩;rcases h.2 with hn | ⟨g,cap,cur,rfl,hg,r⟩
 ·exact .inl hn
 ·exact .inr ⟨g,cap,cur,rfl,CP hb hg,r⟩
theorem QK(w w':World):w'.ownsRow w.heap.size 54 3 (.slice none 0 0) 0 (AA []):=⟨rfl,.inl ⟨rfl,rfl⟩⟩
theorem Ru(v:Value)(g:Gr)(w:World)(h:Ao w v g):Calls Tryz.prog 70 #[v] w (IR w (Av g)):=by
 have h4:=h.sS;have h6:=h.sT;obtain⟨sa,aa,ta,sc,ac,tc,rfl,hv⟩:=h.var;have hb:=Ae w (.cells #[.slice sa g.S.length sc,.slice aa g.A.length ac,.slice ta g.T.length tc] 32);have HN:=Aa (FP _ g _ (h.below hb));cases hh:Bj g
 ·rw[Gf hh];rw[hh]at HN;have HB:=Aa hb;clear h hv hb hh;go_enter Tryz.func70,Tryz.ntmps70;go_wp2_with (first
   | (go_at_call 51;refine HN.out.mono ?_;rintro e w1 ⟨rfl,hb1⟩;have HB1:=Aa (HB.out.trans (hb1.mono HB.out.size));clear hb1))
  go_ret;exact⟨_,rfl,QK _ _,HB1.out⟩
 ·have hR:=(Aq g).1 hh;rw[CM hR];rw[hh]at HN;obtain⟨i0,hi0,hz0,hz1,hz2⟩:=CE Tryz.info54;have hne:=hR.ne;obtain⟨n,hn⟩:∃n:Nat,g.S.length=n+1:=⟨g.S.length - 1,by omega⟩;have Hn:=Aa hn;have hnl:n+1≤g.S.length:=by omega
  have hnu:g.S.length≤n+1:=by omega
  have hst0:st g 0=0:=by unfold st;rw[hR.first];rfl
  have hsp:∀i,i<g.S.length→(Du g 0 i).length=st g i:=fun i hi=>by rw[KT hR 0 i (by omega),hst0,Nat.zero_add];rfl
  have HSP:=Aa hsp;have HST:=Aa hst0;have hn1:g.S.length - 1=n:=by omega
  rw[hn1];have c0:=hv.c0;have HB:=Aa hb;have HR:=Aa hR;have HV:=Aa hv;clear h hv hb hR hn hn1 hsp hh hst0;go_enter Tryz.func70,Tryz.ntmps70;go_wp2_with (first
   | (go_at_call 51;refine HN.out.mono ?_;rintro e w1 ⟨rfl,hb1⟩;have x0:=Af hb1 c0;have HV1:=Aa (HV.out.below hb1);have HB1:=Aa (HB.out.trans (hb1.mono HB.out.size));clear hb1 c0))
  go_loopg [3,4] n (fun fu v c wr=>∃i:Nat,i+fu=n∧c=.int .i64 i∧wr.ownsRow w1.heap.size 54 3 v (st g i) (AA (Du g 0 i))∧Below w1.heap.size w1 wr)
  case atStart=>exact⟨0,by omega,rfl,by rw[HST.out];exact⟨rfl,.inl ⟨rfl,rfl⟩⟩,Ak _ _⟩
  case round=>
   obtain⟨i,hi,rfl,ho,hb⟩:=hrel;have z0:=Af hb x0;by_cases hlt:i<n
   ·obtain⟨b,off,rfl,s0⟩:=HV1.out.hs i (by omega);rw[HR.out.st (by omega)]at s0;have s1:=Af hb s0;have b1:(i:Int)+1<(g.S.length:Int):=by omega
    have b2:(i:Int)<(g.S.length:Int):=by omega
    have HO:=Aa ho;have HBB:=Aa hb;clear ho hb s0;go_wp2_with fail
    clear b1 b2;obtain⟨wr1,rfl⟩:∃z:World,z=wr:=⟨_,rfl⟩;obtain⟨gk',rfl⟩:∃z:Nat,z=gk:=⟨_,rfl⟩;have hsl:=HR.out.stLe (i:=i) (j:=i+1) (by omega) (by omega);have hst:=HR.out.stTop (i:=i+1) (by omega);obtain⟨len,hlen⟩:∃m:Nat,st g (i+1)=st g i+m:=⟨st g (i+1) - st g i,by omega⟩;have HL:=Aa hlen;have hl2:st g i+len≤g.T.length:=by omega
    have hi1:i+1<g.S.length:=by omega
    clear hlen hsl hst;go_loopg [3,5] len (fun fu v c wr=>∃r:Nat,r+fu=len∧c=.int .i64 (st g i+r:Nat)∧wr.ownsRow w1.heap.size 54 3 v (st g i+r) (AA (Du g 0 i++Dy g i r))∧Below w1.heap.size w1 wr)
    case atStart=>exact⟨0,by omega,rfl,by simpa[Dy]using HO.out,HBB.out⟩
    case round=>
     clear HO HBB z0 s1;obtain⟨r,hr,rfl,ho,hb⟩:=hrel;have z0:=Af hb x0;obtain⟨b',off',e,s0⟩:=HV1.out.hs (i+1) hi1;cases e;rw[HR.out.st hi1,HL.out]at s0;have s1:=Af hb s0;have e1:IntKind.i64.wrap ((i:Int)+1)=((i+1:Nat):Int):=by rw[DS _ (by omega)];simp
     have b4:(i:Int)+1<(g.S.length:Int):=by omega
     clear s0;by_cases hlt2:r<len
     ·generalize hp:st g i+r=p at*;have hkT:p<g.T.length:=by omega
      have hkA:p<g.A.length:=by rw[HR.out.lens];exact hkT
      have c1:=Af hb HV1.out.c1;have c2:=Af hb HV1.out.c2;obtain⟨ba,oa,rfl,a0⟩:=HV1.out.ha p hkA;obtain⟨bt,ot,rfl,t0⟩:=HV1.out.ht p hkT;have a1:=Af hb a0;have t1:=Af hb t0;have hnext:Du g 0 i++Dy g i (r+1)=(Du g 0 i++Dy g i r)++[edge g i p]:=by rw[Jm,hp,List.append_assoc]
      have b1:(p:Int)<(g.A.length:Int):=by omega
      have b2:(p:Int)<(g.T.length:Int):=by omega
      have b3:(p:Int)<(st g i:Int)+(len:Int):=by omega
      have hedge:edge g i p=((i:Int),g.A.getD p 0,g.T.getD p 0):=rfl;rw[hedge]at hnext;generalize g.A.getD p 0=xa at*;generalize g.T.getD p 0=xt at*;have HO:=Aa ho;have HBB:=Aa hb;have HP:=Aa hp;have HX:=Aa hnext;have hsz:=hb.size;have M1:Hid (p+1≤maxLen):=Aa (by unfold maxLen;omega);have M2:Hid ((p+1)*24≤140737488355328):=Aa (by omega);clear ho hb hp hnext hedge a0 t0;go_wp2_with fail
      go_region_law (refine step_append_lies ((wr.alloc (.cells #[.int .i64 i,.int .i64 xa,.int .i64 xt] 54)).drew) rfl (.tmp 32) (.tmp 45) 55 rfl w1.heap.size 54 i0 (.agg #[.int .i64 0,.int .i64 0,.int .i64 0]) 3 24 Tryz.underlying55 hi0 hz0 hz1 hz2 rfl (by decide) u3 p (AA (Du g 0 i++Dy g i r)) (by simp[Act.eval]) (HO.out.alloc _) ⟨wr.heap.size,0,none⟩ 1 1 [.int .i64 i,.int .i64 xa,.int .i64 xt] (by simp[Act.eval]) rfl (World.news_of_block (Ar wr _)) (by simp[Value.oneCell']) Nat.one_pos M1.out M2.out (HBB.out.alloc HBB.out.size _).size (wr.heap.size+1) (by simp) ?_;intro g2 cap2 w4 hown2 hgr2 hor2 hlt2;have HB4:=Aa (Lv HBB.out HO.out hgr2);have HO4:=Aa hown2;clear hgr2 hown2)
      clear e1;all_goals go_wp2_with fail
      all_goals go_roundg (gk - 1)
      all_goals first
       | omega
       | exact⟨r+1,by omega,by have:=HP.out;simp;omega,by have e:=HP.out;have q:=Jj HX.out HO4.out;rw[show st g i+(r+1)=p+1 by omega];exact q,HB4.out⟩
     ·obtain rfl:gk=0:=by omega
      obtain rfl:r=len:=by omega
      have hnx:Du g 0 i++Dy g i r=Du g 0 (i+1):=by
       rw[Jo,Lw,Nat.zero_add];have:st g (i+1) - st g i=r:=by have:=HL.out;omega
       rw[this]
      rw[hnx,← HL.out]at ho;have HO:=Aa ho;have HBB:=Aa hb;clear ho hb hnx;go_wp2_with fail
      go_roundg (gk' - 1)
      case measure=>omega
      case rel=>exact⟨i+1,by omega,by simp,HO.out,HBB.out⟩
   ·obtain rfl:gk=0:=by omega
    obtain rfl:i=n:=by omega
    have b1:¬(i:Int)+1<(g.S.length:Int):=by omega
    have Q:=Aa (And.intro (show wr.ownsRow w.heap.size 54 3 _ (Du g 0 i).length (AA (Du g 0 i)) by rw[HSP.out i (by omega)];exact FG ho HB1.out.size) hb);clear ho hb;go_wp2_with fail
    go_ret;exact⟨_,rfl,Q.out.1,HB1.out.trans (Q.out.2.mono HB1.out.size)⟩
theorem Kl(v:Value)(g:Gr)(w:World)(h:Ao w v g):Calls Tryz.prog 70 #[v] w (Jg w (Av g)):=(Ru v g w h).mono fun _ _ h=>h.back
structure QG(n:Nat)(fr:List Int)(l:List Ed)(out0:List Bool)(r:Nat)(out:List Bool)(more:Bool):Prop where
 len:out.length=n
 sound:∀i,i<n→out.getD i false=true→Vd l (Src n fr) (i:Int)
 keep:∀j,out0.getD j false=true→out.getD j false=true
 still:more=false→out=out0∧∀j,j<r→out.getD (l.getD j (0,0,0)).1.toNat false=true→out.getD (l.getD j (0,0,0)).2.2.toNat false=true
 less:more=true→Fr out<Fr out0
theorem QG.skip{n:Nat}{fr:List Int}{l:List Ed}{out0 out:List Bool}{r:Nat}{more:Bool}(h:QG n fr l out0 r out more)(hno:out.getD (l.getD r (0,0,0)).1.toNat false=true→out.getD (l.getD r (0,0,0)).2.2.toNat false=true):QG n fr l out0 (r+1) out more:=by
 refine⟨h.len,h.sound,h.keep,fun hm=>⟨(h.still hm).1,fun j hj=>?_⟩,h.less⟩;by_cases e:j=r
 ·subst e;exact hno
 ·exact(h.still hm).2 j (by omega)
theorem QG.hit {n:Nat} {fr:List Int} {l:List Ed} {out0 out:List Bool} {r:Nat} {more:Bool} (h:QG n fr l out0 r out more) (hr:r<l.length) {f t:Nat} (hf:(l.getD r (0,0,0)).1=(f:Int)) (ht:(l.getD r (0,0,0)).2.2=(t:Int)) (hfn:f<n) (htn:t<n)
 (h1:out.getD f false=true) (h2:out.getD t false=false):QG n fr l out0 (r+1) (out.set t true) true:=by
 have hfs:=NI out t (by rw[h.len];exact htn) h2;refine⟨by simp[h.len],?_,?_,fun hm=>(by cases hm),fun _=>?_⟩
 ·intro i hi he;rw[GW _ _ _ _ _ (by rw[h.len];exact htn)]at he;by_cases e:i=t
  ·subst e;rw[← ht];refine .step (by rw[hf];exact h.sound f hfn h1) ?_;rw[show l.getD r (0,0,0)=l[r] by simp[List.getD,hr]];exact List.getElem_mem hr
  ·rw[if_neg e]at he;exact h.sound i hi he
 ·intro j hj;rw[GW _ _ _ _ _ (by rw[h.len];exact htn)];by_cases e:j=t
  ·rw[if_pos e]
  ·rw[if_neg e];exact h.keep j hj
 ·cases more
  ·rw[← (h.still rfl).1];omega
  ·have:=h.less rfl;omega
theorem Tu{n:Nat}{fr:List Int}{l:List Ed}{out:List Bool}(hl:out.length=n)(hs:∀i,i<n→out.getD i false=true→Vd l (Src n fr) (i:Int)):QG n fr l out 0 out false:=
 ⟨hl,hs,fun _ h=>h,fun _=>⟨rfl,fun j hj=>by omega⟩,fun h=>by cases h⟩
theorem Xz{g:Gr}(hR:Rt g){fr:List Int}{out0 out:List Bool}(h:QG (Ad g) fr (Av g) out0 (Av g).length out false)(hb:∀i:Nat,i<Ad g→(i:Int)∈fr→out0.getD i false=true):out=Cq g fr:=by
 refine WX hR fr out h.len h.sound (fun i hi hm=>h.keep i (hb i hi hm)) ?_;intro e he;obtain⟨j,hj,rfl⟩:=List.mem_iff_getElem.1 he;have:=(h.still rfl).2 j hj;rwa [show(Av g).getD j (0,0,0)=(Av g)[j] by simp[List.getD,hj]]at this
def KH(n:Nat)(out:List Bool)(i:Int):List Bool:=if 0≤i∧i<(n:Int) then out.set i.toNat true else out
def DI(n:Nat)(fr:List Int):List Bool:=fr.foldl (KH n) (List.replicate n false)
theorem QB(n:Nat)(fr:List Int)(i:Int):DI n (fr++[i])=KH n (DI n fr) i:=by simp[DI]
theorem Qm(n:Nat)(fr:List Int)(k:Nat)(hk:k<fr.length):DI n (fr.take (k+1))=KH n (DI n (fr.take k)) (fr.getD k 0):=by
 rw[List.take_add_one,Bf hk,Option.toList_some,QB];simp[List.getD,hk]
theorem VP(n:Nat)(out:List Bool)(i:Int):(KH n out i).length=out.length:=by unfold KH;split <;> simp
theorem Hw(n:Nat):∀fr:List Int,(DI n fr).length=n∧∀i,i<n→((DI n fr).getD i false=true↔(i:Int)∈fr):=by
 suffices h:∀(fr:List Int) (out:List Bool),out.length=n→(fr.foldl (KH n) out).length=n∧∀i,i<n→((fr.foldl (KH n) out).getD i false=true↔out.getD i false=true∨(i:Int)∈fr) by
  intro fr;obtain⟨a,b⟩:=h fr (List.replicate n false) (by simp);refine⟨a,fun i hi=>?_⟩;have:=b i hi;unfold DI;rw[this];simp[List.getD,hi]
 intro fr
 induction fr with
 | nil=>intro out hl;exact⟨hl,fun i _=>by simp⟩
 | cons x fr ih=>
  intro out hl;obtain⟨a,b⟩:=ih (KH n out x) (by rw[VP,hl]);refine⟨a,fun i hi=>?_⟩;have:=b i hi;rw[List.foldl_cons,this,Br];unfold KH;by_cases hx:0≤x∧x<(n:Int)
  ·rw[if_pos hx,GW _ _ _ _ _ (by omega)];by_cases e:i=x.toNat
   ·rw[if_pos e];have:(i:Int)=x:=by omega
    simp[this]
   ·rw[if_neg e];have:¬(i:Int)=x:=by omega
    simp[this]
  ·rw[if_neg hx];have:¬(i:Int)=x:=by omega
   simp[this]
structure JA(w wr:World)(gc:Array Value)(B:Nat)(out:List Bool):Prop where
 below:Below w.heap.size w wr
 hB:w.heap.size<B
 vg:wr.heap[w.heap.size]?=some (.cells gc 32 (0,0))
 bo:wr.heap[B]?=some (.cells (bools out) 4 (0,0))
theorem JA.more{w wr w':World}{gc:Array Value}{B:Nat}{out:List Bool}(h:JA w wr gc B out)(hb:Below wr.heap.size wr w'):JA w w' gc B out:=⟨h.below.trans (hb.mono h.below.size),h.hB,Ah hb h.vg,Ah hb h.bo⟩
theorem JA.set{w wr:World}{gc:Array Value}{B:Nat}{out:List Bool}(h:JA w wr gc B out)(k:Nat):JA w (wr.setCell ⟨B,k,none⟩ (.bool true)) gc B (out.set k true):=by
 have hB:=h.hB;exact⟨h.below.setCell (p:=⟨B,k,none⟩) (by show w.heap.size≤B;omega) _,hB,by rw[Below.heap_setCell _ _ _ _ (show w.heap.size≠B by omega)];exact h.vg,by rw[Ac h.bo,EW]⟩
theorem JA.ints{w w4 wr:World}{gc:Array Value}{B:Nat}{out:List Bool}(h:JA w w4 gc B out)(hf:Bn (fun k=>k=B) w4 wr){p:Addr}{x:Int}(hc:w4.cell? p=some (.int .i64 x)):wr.cell? p=some (.int .i64 x):=by
 refine hf.cell hc ?_;intro e;obtain⟨blk,off,spot⟩:=p;have e:blk=B:=e;subst e;have hs:=World.cell?_spot hc;simp only at hs;subst hs;simp only[World.cell?,h.bo]at hc;unfold bools at hc;simp only[List.getElem?_toArray,List.getElem?_map]at hc;cases hq:out[off]? <;> simp[hq]at hc
theorem JA.cell{w wr:World}{gc:Array Value}{B:Nat}{out:List Bool}(h:JA w wr gc B out)(k:Nat)(hk:k<out.length):wr.cell? ⟨B,k,none⟩=some (.bool (out.getD k false)):=Ab h.bo k _ (Co out k hk)
theorem JA.free{w wr:World}{gc:Array Value}{B:Nat}{out:List Bool}(h:JA w wr gc B out)(k:Nat):wr.frozen? ⟨B,k,none⟩=false:=Ag h.bo k
def Zs(w:World)(l:List Bool)(e:Ending)(w':World):Prop:=∃B,e=.returned (.slice (some ⟨B,0,none⟩) l.length l.length)∧w'.heap[B]?=some (.cells (bools l) 4 (0,0))∧w.heap.size≤B∧Below w.heap.size w w'
theorem TT(v u:Value)(g:Gr)(fr:List Int)(w:World)(h:Ao w v g)(hu:Am w u fr)(hR:Rt g)(hfl:fr.length≤1000000):Calls Tryz.prog 90 #[v,u] w (Zs w (Cq g fr)):=by
 obtain⟨sa,aa,ta,sc,ac,tc,rfl,-⟩:=h.var;obtain⟨fa,fc,rfl,hf⟩:=hu;have hb:=Ae w (.cells #[.slice sa g.S.length sc,.slice aa g.A.length ac,.slice ta g.T.length tc] 32);have HNN:=Aa (El _ g _ (h.below hb));have HN:=Aa (fun w' (hw:Below w.heap.size w w')=>FP _ g w' (h.below hw));have HA:=Aa (fun w' (hw:Below w.heap.size w w')=>Kl _ g w' (h.below hw));rw[(Aq g).2 hR]at HN;have hlen:=Gd hR;have hsT:=h.sT;have hsS:=h.sS;have hll:(Av g).length≤1000000:=by omega
 have hnn:Ad g≤1000000:=by rw[Ap hR];omega
 have hmem:=fun e (he:e∈Av g)=>(Bt hR he);have hnr:=Ap hR;have HE:=Aa (fun out0 out=>@Xz g hR fr out0 out);have HM:=Aa (fun k (hk:k<(Av g).length)=>show∃f t:Nat,((Av g).getD k (0,0,0)).1=(f:Int)∧((Av g).getD k (0,0,0)).2.2=(t:Int)∧f<Ad g∧t<Ad g from by
  have e:(Av g).getD k (0,0,0)=(Av g)[k]:=by simp[List.getD,hk]
  have:=hmem _ (List.getElem_mem hk);rw[e];exact⟨(Av g)[k].1.toNat,(Av g)[k].2.2.toNat,by omega,by omega,by omega,by omega⟩)
 have X0:=Aa (Ar w (.cells #[.slice sa g.S.length sc,.slice aa g.A.length ac,.slice ta g.T.length tc] 32));have HB:=Aa hb;have HF:=Aa hf;obtain⟨-,mk2⟩:=Hw (Ad g) fr;have HK:=Aa mk2;clear h hR hb hf hlen hsT hsS hmem hnr mk2;generalize Ad g=n at*;go_enter Tryz.func90,Tryz.ntmps90;go_wp2_with (first
  | (go_at_call 30;refine HNN.out.mono ?_;rintro e w1 ⟨rfl,hb1⟩;have d0:=Af hb1 (Ab X0.out 0 _ rfl);have d1:=Af hb1 (Ab X0.out 1 _ rfl);have d2:=Af hb1 (Ab X0.out 2 _ rfl);have HX:=Aa (Ah hb1 X0.out);have HB1:=Aa (HB.out.trans (hb1.mono HB.out.size));have hs1:=hb1.size;clear hb1)
  | (go_at_call 51;refine(HN.out _ HB1.out).mono ?_;rintro e w2 ⟨rfl,hb2⟩;have HX2:=Aa (Ah hb2 HX.out);have HB2:=Aa (HB1.out.trans (hb2.mono HB1.out.size));have hs2:=hb2.size;clear hb2 d0 d1 d2)
  | (at_make;refine BE _ rfl (.tmp 16) (.tmp 16) 56 rfl 4 (.bool false) rfl 1 Tryz.underlying56 Tryz.info4 .i64 .i64 (n:Nat) (n:Nat) n rfl rfl rfl rfl (by omega) (by unfold maxLen;omega) ?_;intro w3 hh3 hb3 hlt3;have RS:=Aa (JA.mk (B:=w2.heap.size) (out:=List.replicate n false) (HB2.out.trans (hb3.mono HB2.out.size)) (by simp at hs1;omega) (Ah hb3 HX2.out) (by rw[BJ];exact hh3));clear hh3 hb3 hlt3))
 go_loopg [7] fr.length (fun fu c wr=>∃k:Nat,k+fu=fr.length∧c=.int .i64 k∧JA w wr #[.slice sa g.S.length sc,.slice aa g.A.length ac,.slice ta g.T.length tc] w2.heap.size (DI n (fr.take k)))
 case atStart=>exact⟨0,by omega,rfl,by simpa[DI]using RS.out⟩
 case round=>
  clear RS;obtain⟨k,hk,rfl,hS⟩:=hrel;by_cases hlt:k<fr.length
  ·obtain⟨b,off,rfl,d⟩:=HF.out k hlt;have y:=Af hS.below d;have hstep:=Qm n fr k hlt;have hml:=(Hw n (fr.take k)).1;have z:(k:Int)<(fr.length:Int):=by omega
   clear d;generalize fr.getD k 0=x at*;by_cases t1:x<0
   ·have E:=Aa (hstep.trans (if_neg (by omega)));have HS:=Aa hS;clear hS hstep;go_wp2_with fail
    go_roundg (gk - 1)
    case measure=>omega
    case rel=>exact⟨k+1,by omega,by simp,by rw[E.out];exact HS.out⟩
   by_cases t2:(n:Int)≤x
   ·have E:=Aa (hstep.trans (if_neg (by omega)));have HS:=Aa hS;have t3:¬x<(n:Int):=by omega
    clear hS hstep;go_wp2_with fail
    go_roundg (gk - 1)
    case measure=>omega
    case rel=>exact⟨k+1,by omega,by simp,by rw[E.out];exact HS.out⟩
   ·obtain⟨q,rfl⟩:∃q:Nat,x=(q:Int):=⟨x.toNat,by omega⟩;have E:=Aa (hstep.trans (if_pos (by omega)));have hc:=hS.cell q (by omega);have hfz:=hS.free q;have HS:=Aa (hS.set q);have b2:(q:Int)<(n:Int):=by omega
    clear hS hstep;generalize (DI n (fr.take k)).getD q false=bq at*;go_wp2_with fail
    go_roundg (gk - 1)
    case measure=>omega
    case rel=>exact⟨k+1,by omega,by simp,by rw[E.out];exact HS.out⟩
  ·obtain rfl:gk=0:=by omega
   obtain rfl:k=fr.length:=by omega
   rw[Ez]at hS;have HS:=Aa hS;obtain⟨a0,a1,a2⟩:=DY hS.vg;clear hS;go_wp2_with (first
    | (go_at_call 70;refine(HA.out _ HS.out.below).mono ?_;rintro e w4 ⟨lv,rfl,hE,hb4⟩;have HS4:=Aa (HS.out.more hb4);obtain⟨la,lc,rfl,hl⟩:=hE;have HL:=Aa hl;clear hl hb4))
   have hms:=(Hw n fr).1;have PS:=Aa (fun(out:List Bool) (hl:out.length=n) (hs:∀i,i<n→out.getD i false=true→Vd (Av g) (Src n fr) (i:Int))=>Tu (l:=Av g) hl hs);have hs0:∀i,i<n→(DI n fr).getD i false=true→Vd (Av g) (Src n fr) (i:Int):=fun i hi he=>.base ⟨(HK.out i hi).1 he,by omega,by omega⟩;have HS0:=Aa hs0;have HMS:=Aa hms;clear hs0 hms a0 a1 a2 hlt hk;generalize Av g=l at*;have hllz:(l.length:Int)≤1000000:=by omega
   go_loopg [9] (Fr (DI n fr)+1) (fun fu m wr=>∃(out:List Bool) (more:Bool),m=.bool more∧fu=(if more=true then Fr out+1 else 0)∧JA w wr #[.slice sa g.S.length sc,.slice aa g.A.length ac,.slice ta g.T.length tc] w2.heap.size out∧Bn (fun k=>k=w2.heap.size) w4 wr∧out.length=n∧
    (∀i,i<n→out.getD i false=true→Vd l (Src n fr) (i:Int))∧(∀i:Nat,i<n→(i:Int)∈fr→out.getD i false=true)∧(more=false→out=Cq g fr))
   case atStart=>exact⟨_,true,rfl,by simp,HS4.out,Bn.refl _ _,HMS.out,HS0.out,fun i hi hm=>(HK.out i hi).2 hm,fun h=>by cases h⟩
   case round=>
    obtain⟨out,more,rfl,hfu,hS,hfr,hlen,hsound,hsrc,hdone⟩:=hrel;cases more
    ·have E:=Aa (hdone rfl);have HS:=Aa hS;have HLN:=Aa hlen;clear hfu hS hfr hlen hsound hsrc hdone;go_wp2_with fail
     go_ret;exact⟨w2.heap.size,by have e:(Cq g fr).length=n:=(by rw[← E.out,HLN.out]);rw[e];rfl,by rw[← E.out];exact HS.out.bo,Nat.le_of_lt HS.out.hB,HS.out.below⟩
    ·have HG:=Aa (show gk=Fr out+1 by simpa using hfu);have HS:=Aa hS;have HFR:=Aa hfr;have P0:=Aa (PS.out out hlen hsound);have HSRC:=Aa hsrc;clear hfu hS hfr hlen hsound hsrc hdone;go_wp2_with fail
     obtain⟨wr1,rfl⟩:∃z:World,z=wr:=⟨_,rfl⟩;obtain⟨gk',rfl⟩:∃z:Nat,z=gk:=⟨_,rfl⟩;go_loopg [9,10] l.length (fun fu m c wr=>∃(r:Nat) (out':List Bool) (more:Bool),r+fu=l.length∧m=.bool more∧c=.int .i64 r∧JA w wr #[.slice sa g.S.length sc,.slice aa g.A.length ac,.slice ta g.T.length tc] w2.heap.size out'∧Bn (fun k=>k=w2.heap.size) w4 wr∧QG n fr l out r out' more)
     case atStart=>exact⟨0,out,false,by omega,rfl,rfl,HS.out,HFR.out,P0.out⟩
     case round=>
      clear HS HFR P0;obtain⟨r,out',more,hr,rfl,rfl,hS,hfr,hP⟩:=hrel;by_cases hlt:r<l.length
      ·obtain⟨f,t,hf1,ht1,hfn,htn⟩:=HM.out r hlt;obtain⟨b,off,rfl,e1,e2,e3⟩:=HL.out r hlt;have y1:=HS4.out.ints hfr e1;have y3:=HS4.out.ints hfr e3;have hol:=hP.len;have cf:=hS.cell f (by omega);have ct:=hS.cell t (by omega);have fz:=hS.free t;have z:(r:Int)<(l.length:Int):=by omega
       have zf:(f:Int)<(n:Int):=by omega
       have zt:(t:Int)<(n:Int):=by omega
       have hskip:=Aa (fun(hno:out'.getD f false=true→out'.getD t false=true)=>hP.skip (r:=r) (by rw[hf1,ht1];simpa using hno));have hhit:=Aa (fun h1 h2=>hP.hit hlt hf1 ht1 hfn htn h1 h2);have HS:=Aa hS;have HS1:=Aa (hS.set t);have HFR:=Aa hfr;have HFR1:=Aa (hfr.setCell (p:=⟨w2.heap.size,t,none⟩) (fun _=>rfl) (.bool true));rw[hf1]at y1;rw[ht1]at y3;clear hf1 ht1 e1 e2 e3 hS hfr hP hol;cases h1:out'.getD f false
       ·have K:=Aa (hskip.out (fun h=>by rw[h1]at h;cases h));rw[h1]at cf;clear hskip hhit h1;generalize out'.getD t false=bt at*;go_wp2_with fail
        go_roundg (gk - 1)
        case measure=>omega
        case rel=>exact⟨r+1,out',more,by omega,rfl,by simp,HS.out,HFR.out,K.out⟩
       ·cases h2:out'.getD t false
        ·have K:=Aa (hhit.out h1 h2);rw[h1]at cf;rw[h2]at ct;clear hskip hhit h1 h2;go_wp2_with fail
         go_roundg (gk - 1)
         case measure=>omega
         case rel=>exact⟨r+1,out'.set t true,true,by omega,rfl,by simp,HS1.out,HFR1.out,K.out⟩
        ·have K:=Aa (hskip.out (fun _=>h2));rw[h1]at cf;rw[h2]at ct;clear hskip hhit h1 h2;go_wp2_with fail
         go_roundg (gk - 1)
         case measure=>omega
         case rel=>exact⟨r+1,out',more,by omega,rfl,by simp,HS.out,HFR.out,K.out⟩
      ·obtain rfl:gk=0:=by omega
       obtain rfl:r=l.length:=by omega
       have hsrc2:∀i:Nat,i<n→(i:Int)∈fr→out'.getD i false=true:=fun i hi hm=>hP.keep i (HSRC.out i hi hm);have hdone2:more=false→out'=Cq g fr:=fun e=>HE.out out out' (e▸hP) HSRC.out;have hless:more=true→Fr out'<Fr out:=hP.less;have HQ:=Aa (And.intro hS (And.intro hfr (And.intro hP.len (And.intro hP.sound (And.intro hsrc2 hdone2)))));have HLS:=Aa hless;clear hS hfr hP hsrc2 hdone2 hless;cases more
       ·go_wp2_with fail
        go_roundg 0
        case measure=>have:=HG.out;omega
        case rel=>exact⟨out',false,rfl,by simp,HQ.out.1,HQ.out.2.1,HQ.out.2.2.1,HQ.out.2.2.2.1,HQ.out.2.2.2.2.1,fun _=>HQ.out.2.2.2.2.2 trivial⟩
       ·go_wp2_with fail
        go_roundg (Fr out'+1)
        case measure=>have:=HG.out;have:=HLS.out trivial;omega
        case rel=>exact⟨out',true,rfl,by simp,HQ.out.1,HQ.out.2.1,HQ.out.2.2.1,HQ.out.2.2.2.1,HQ.out.2.2.2.2.1,fun h=>by cases h⟩
def Dv(m n:Nat):Array Bool:=(List.replicate n true++List.replicate (m - n) false).toArray
section
variable {P:Program} {ops:Array Oper} {Q:Exit→Act→World→Prop} {md:Region.Mode}
theorem UI{n:Nat}{listed:Array Bool}(inv:HeadInv md ops n listed)(hn:n≤ops.size)(hall:∀j,j<n→listed.getD j true=true):listed=Dv ops.size n:=by
 have hs:=inv.size;refine Array.ext (by simp[Dv];omega) fun j h1 h2=>?_;have e1:listed.getD j true=listed[j]:=by simp[h1]
 by_cases hj:j<n
 ·have:=hall j hj;rw[e1]at this;rw[this];simp[Dv,hj]
 ·have:=inv.tail j (by omega) (by omega);rw[e1]at this;rw[this];simp[Dv,List.getElem_append,hj]
theorem Nf{m n:Nat}:OH (Dv m n)=m - n:=by
 simp[OH,Dv,List.countP_replicate]
theorem NK (n:Nat) (mk:(Nat→Value)→Act) (d:Nat→Nat) (w0:World) (R:Nat→Value→World→Prop)
 (hs:Region.sinkB md ops n=true) (hc:Region.chainB md ops n=true) (hn:n<ops.size) (hseq:Region.seqB md ops (ops.size - n) n (Dv ops.size n)=true)
 (hR:∀i u w w',Below w.heap.size w w'→R i u w→R i u w')
 (hlex:Dg md ops=true) (hinj:∀i j,i<n→j<n→d i=d j→i=j)
 (hput:∀j,j<n→∀f v,(mk f).put (some (d j)) v=mk (Bx f (d j) v))
 (hstep:∀j o,j<n→ops[j]?=some o→Nh P ops Q md mk d w0 R j o)
 (hend:∀f w,Below w0.heap.size w0 w→(∀j,j<n→R j (f (d j)) w)→wpList P ops Q (ops.toList.drop n) (mk f) w):
 ∀(fuel:Nat) (listed:Array Bool) (f:Nat→Value) (w:World),HeadInv md ops n listed→fuel=OH listed→Below w0.heap.size w0 w→
  (∀j,j<n→listed.getD j true=true→R j (f (d j)) w)→wpAny P md ops Q fuel listed (mk f) w:=by
 have hfin:∀(fuel:Nat) (listed:Array Bool) (f:Nat→Value) (w:World),HeadInv md ops n listed→fuel=OH listed→Below w0.heap.size w0 w→
  (∀j,j<n→listed.getD j true=true→R j (f (d j)) w)→(∀j,j<n→listed.getD j true=true)→wpAny P md ops Q fuel listed (mk f) w:=by
  intro fuel listed f w inv hf hb hr hall;have e:=UI inv (Nat.le_of_lt hn) hall;have hl:(ops.toList.drop n).length=ops.size - n:=by simp
  have hfu:fuel=(ops.toList.drop n).length:=by rw[hf,e,Nf,hl]
  subst hfu;refine wpAny_of_seq (ops.toList.drop n) n listed (mk f) w (fun j=>by simp[List.getElem?_drop]) (by rw[hl,e];exact hseq) (hend f w hb fun j hj=>hr j hj (hall j hj))
 intro fuel
 induction fuel with
 | zero=>
  intro listed f w inv hf hb hr;refine hfin 0 listed f w inv hf hb hr fun j hj=>?_;cases hl:listed.getD j true with
  | true=>rfl
  | false=>
   have hjs:j<listed.size:=by rw[inv.size];omega
   have hpos:0<listed.toList.countP (fun b=>!b):=by
    rw[List.countP_pos_iff];refine⟨listed[j],by simp,?_⟩;simpa[hjs]using hl
   unfold OH at hf;omega
 | succ fuel ih=>
  intro listed f w inv hf hb hr;by_cases hall:∀j,j<n→listed.getD j true=true
  ·exact hfin (fuel+1) listed f w inv hf hb hr hall
  ·obtain⟨j0,hj0,hl0⟩:∃j,j<n∧listed.getD j true=false:=by
    refine Classical.byContradiction fun hne=>hall fun j hj=>?_;cases hl:listed.getD j true with
    | true=>rfl
    | false=>exact absurd ⟨j,hj,hl⟩ hne
   refine⟨fun h0=>?_,fun i hi=>?_⟩
   ·exfalso;have key:∀j,j<n→listed.getD j true=true:=by
     intro j
     induction j using Nat.strongRecOn with
     | _ j ih=>
      intro hj;cases hl:listed.getD j true with
      | true=>rfl
      | false=>
       exfalso;have hjs:j<ops.size:=by omega
       have hm:j∈Region.ready md ops listed:=by
        rw[mem_ready];refine⟨hl,ops[j],by simp[hjs],fun e he hbd=>?_⟩;have hle:e.on<j:=by
         unfold Dg at hlex;have:=List.all_eq_true.1 hlex j (Cg.2 hjs);simp only[Array.getElem?_eq_getElem hjs,Option.map_some,Option.getD_some,Array.all_eq_true']at this;have:=this e he;simpa[hbd]using this
        have h1:=ih e.on hle (by omega);have hsz:e.on<listed.size:=by rw[inv.size];omega
        simpa[hsz]using h1
       rw[h0]at hm;cases hm
    exact hall key
   ·have hin:i<n:=by
     rcases Nat.lt_or_ge i n with h | h
     ·exact h
     ·exact absurd hi (tail_waits hs hc hn inv (n - j0) j0 rfl hj0 hl0 i h)
    obtain⟨hl,o,ho,hall2⟩:=mem_ready.1 hi;have his:i<ops.size:=(BO.1 ho).1;have hil:i<listed.size:=by rw[inv.size];omega
    have hdeps:∀k,EE md ops i k=true→R k (f (d k)) w:=by
     intro k hk;unfold EE at hk;simp only[ho,Option.map_some,Option.getD_some,Array.any_eq_true',Ci,beq_iff_eq]at hk;obtain⟨e,he,hbd,rfl⟩:=hk;have hlf:=hall2 e he hbd;have hle:e.on<i:=by
      unfold Dg at hlex;have:=List.all_eq_true.1 hlex i (Cg.2 his);simp only[ho,Option.map_some,Option.getD_some,Array.all_eq_true']at this;have:=this e he;simpa[hbd]using this
     have hlt:e.on<listed.size:=by omega
     exact hr e.on (by omega) (by simpa[hlt]using hlf)
    have hk:=hstep i o hin ho f w hb hdeps (wpAny P md ops Q fuel (listed.setIfInBounds i true)) (by
     intro v w' hb' hv;rw[hput i hin];refine ih _ _ _ (inv.set hi hin) ?_ (hb.trans (hb'.mono hb.size)) ?_
     ·unfold OH at hf ⊢;have:=Jh listed.toList i (by simpa using hil) (by simpa[hil]using hl);rw[Array.toList_setIfInBounds];omega
     ·intro j hj hlj;by_cases e:j=i
      ·subst e;rw[AS];exact hv
      ·rw[AE _ _ _ _ (fun e2=>e (hinj j i hj hin e2))];refine hR j _ w w' hb' (hr j hj ?_);rw[getD_set_ne true (fun e2=>e e2.symm)]at hlj;exact hlj)
    unfold wpOp;simp only[ho];split
    ·rename_i hw;rw[if_pos hw]at hk;exact .inl hk
    ·rename_i hw;rw[if_neg hw]at hk;exact hk
theorem BH {id:Nat} {a:Act} {w:World} {l:List Oper} (n:Nat) (f0:Nat→Value) (mk:(Nat→Value)→Act) (d:Nat→Nat) (R:Nat→Value→World→Prop) (ha:a=mk f0)
 (hm:P.follows .mixedOrders=true) (hs:Region.sinkB .any l.toArray n=true) (hc:Region.chainB .any l.toArray n=true) (hn:n<l.length) (hseq:Region.seqB .any l.toArray (l.length - n) n (Dv l.length n)=true)
 (hR:∀i u w w',Below w.heap.size w w'→R i u w→R i u w')
 (hlex:Dg .any l.toArray=true) (hinj:XS n d=true)
 (hput:∀j,j<n→∀f v,(mk f).put (some (d j)) v=mk (Bx f (d j) v))
 (hstep:Gv P l.toArray Q .any mk d w.drew R 0 (l.take n))
 (hend:∀f w',Below w.heap.size w w'→(∀j,j<n→R j (f (d j)) w')→wpList P l.toArray Q (l.drop n) (mk f) w'):(Code.region id l.toArray true).wp P Q a w:=by
 subst ha;refine wp_region_any hm ?_;have hb0:Below w.drew.heap.size w.drew w.drew:=Ak _ _;have inv0:HeadInv .any l.toArray n (Array.replicate l.toArray.size false):=
  ⟨by simp,fun j oj _ hl=>(by rw[getD_replicate_false]at hl;cases hl),fun t _ ht=>getD_in (by simpa using ht) (getD_replicate_false _ _)⟩
 refine NK n mk d w.drew R hs hc (by simpa using hn) (by simpa using hseq) hR hlex ?_ hput ?_ ?_ _ _ f0 w.drew inv0 ?_ hb0 ?_
 ·intro i j hi hj e;have h1:=List.all_eq_true.1 hinj i (Cg.2 hi);have h2:=List.all_eq_true.1 h1 j (Cg.2 hj);simpa[e]using h2
 ·intro j o hj ho;have:=hstep.at (l.take n) 0 j o (by rw[List.getElem?_take,if_pos hj];simpa using ho);rwa [Nat.zero_add]at this
 ·intro f w' hb h;exact hend f w' ⟨hb.os,hb.tape,hb.output,hb.size,hb.block⟩ h
 ·unfold OH;simp[List.countP_replicate]
 ·intro j hj hl;have hjl:j<l.length:=by omega
  simp[hjl]at hl
end
end Go.Proofs.YtlhpjfnfemebdaaGreat
