/-
  edges.Build: its own memory. edges.Build: the walk.
-/
import Derived.Test.YtlhpjfnfemebdaaGreatJBase
import Derived.Laws.CopyOwn
import Derived.Deep.OwnRows
import Derived.Deep.DeepCutAuto
set_option maxRecDepth 100000
set_option maxHeartbeats 64000000
namespace Go.Proofs.YtlhpjfnfemebdaaGreat
open Go.RowKit
def Ff(w:World)(g:Gr)(n:Int)(e:Ending)(w':World):Prop:=
 ∃v,e=.returned (.tuple #[v,.int .i64 n])∧Ao w' v g∧Below w.heap.size w w'
structure KG(w wr:World)(S:List Int):Prop where
 below:Below w.heap.size w wr
 res:wr.heap[w.heap.size]?=some (.cells #[.slice none 0 0,.slice none 0 0,.slice none 0 0] 32 (0,0))
 st:wr.heap[w.heap.size+1]?=some (.cells (ints S) 3 (0,0))
theorem KG.size{w wr:World}{S:List Int}(h:KG w wr S):w.heap.size+1<wr.heap.size:=(BO.1 h.st).1
theorem KG.drew{w wr:World}{S:List Int}(h:KG w wr S):KG w wr.drew S:=⟨h.below.drew,h.res,h.st⟩
theorem KG.more{w wr w':World}{S:List Int}(h:KG w wr S)(hb:Below wr.heap.size wr w'):KG w w' S:=
 ⟨h.below.trans (hb.mono h.below.size),Ah hb h.res,Ah hb h.st⟩
theorem KG.set{w wr:World}{S:List Int}(h:KG w wr S)(p:Nat)(v:Int):KG w (wr.setCell ⟨w.heap.size+1,p,none⟩ (.int .i64 v)) (S.set p v):=
 ⟨h.below.setCell (p:=⟨w.heap.size+1,p,none⟩) (by show w.heap.size≤w.heap.size+1;omega) _,by rw[Below.heap_setCell _ _ _ _ (by show w.heap.size≠w.heap.size+1;omega)];exact h.res,
  by rw[Ac h.st,Fc]⟩
theorem KG.rcell{w wr:World}{S:List Int}(h:KG w wr S)(p:Nat)(hp:p<3):wr.cell? ⟨w.heap.size,p,none⟩=some (.slice none 0 0):=Ab h.res p _ (by rcases p with _ | _ | _ | p <;> first | rfl | omega)
theorem KG.rfree{w wr:World}{S:List Int}(h:KG w wr S)(p:Nat):wr.frozen? ⟨w.heap.size,p,none⟩=false:=Ag h.res p
theorem KG.cell{w wr:World}{S:List Int}(h:KG w wr S)(p:Nat)(hp:p<S.length):wr.cell? ⟨w.heap.size+1,p,none⟩=some (.int .i64 (S.getD p 0)):=Ab h.st p _ (Bw S p hp)
theorem KG.free{w wr:World}{S:List Int}(h:KG w wr S)(p:Nat):wr.frozen? ⟨w.heap.size+1,p,none⟩=false:=Ag h.st p
theorem KG.ret{w wr:World}{S:List Int}(h:KG w wr S)(x y z:Value):
 Below w.heap.size w (((wr.setCell ⟨w.heap.size,0,none⟩ x).setCell ⟨w.heap.size,1,none⟩ y).setCell ⟨w.heap.size,2,none⟩ z)∧
 (((wr.setCell ⟨w.heap.size,0,none⟩ x).setCell ⟨w.heap.size,1,none⟩ y).setCell ⟨w.heap.size,2,none⟩ z).cell? ⟨w.heap.size,0,none⟩=some x∧
 (((wr.setCell ⟨w.heap.size,0,none⟩ x).setCell ⟨w.heap.size,1,none⟩ y).setCell ⟨w.heap.size,2,none⟩ z).cell? ⟨w.heap.size,1,none⟩=some y∧
 (((wr.setCell ⟨w.heap.size,0,none⟩ x).setCell ⟨w.heap.size,1,none⟩ y).setCell ⟨w.heap.size,2,none⟩ z).cell? ⟨w.heap.size,2,none⟩=some z:=by
 have e1:=Ac h.res 0 x;have e2:=Ac e1 1 y;have e3:=Ac e2 2 z;refine⟨((h.below.setCell (p:=⟨w.heap.size,0,none⟩) (AQ _) _).setCell (p:=⟨w.heap.size,1,none⟩) (AQ _) _).setCell (p:=⟨w.heap.size,2,none⟩) (AQ _) _,Ab e3 0 _ rfl,Ab e3 1 _ rfl,Ab e3 2 _ rfl⟩
theorem Ce{w w':World}{n:Int}{l:List Ed}(h:AY n l=false)(hb:Below w.heap.size w w'):
 Ff w (Ai n l) (DF n l) (.returned (.tuple #[.agg #[.slice none 0 0,.slice none 0 0,.slice none 0 0],.int .i64 1])) w':=by
 have e1:Ai n l=⟨[],[],[]⟩:=by simp[Ai,h]
 have e2:DF n l=1:=by simp[DF,h]
 rw[e1,e2];exact⟨_,rfl,DB _,hb⟩
theorem Xx(l:List Ed)(i:Nat):Fv l i≤l.length:=(List.filter_sublist).length_le
theorem Ob(l:List Ed)(i:Nat):Bl l i≤l.length:=(List.filter_sublist).length_le
theorem Uq{n:Nat}{l:List Ed}{k:Nat}(hk:k<l.length)(h:AY n l=true):∃f:Nat,(l.getD k (0,0,0)).1=(f:Int)∧f<n:=by
 simp only[AY,Ci,List.all_eq_true,Mg,decide_eq_true_eq]at h;have:=h.2 (l.getD k (0,0,0)) (by simp[List.getD,hk]);exact⟨(l.getD k (0,0,0)).1.toNat,by omega,by omega⟩
theorem LI{n:Nat}{l:List Ed}{k:Nat}(hk:k<l.length)(h:¬Mg n (l.getD k (0,0,0))=true):AY n l=false:=by
 cases e:AY n l
 ·rfl
 ·exfalso;apply h;simp only[AY,Ci,List.all_eq_true]at e;exact e.2 _ (by simp[List.getD,hk])
theorem Kd{n:Nat}{l:List Ed}(hn:n≤100000)(h:∀j,j<l.length→Mg n (l.getD j (0,0,0))=true):AY n l=true:=by
 simp only[AY,Ci,List.all_eq_true,decide_eq_true_eq];refine⟨by omega,fun e he=>?_⟩;obtain⟨j,hj,rfl⟩:=List.mem_iff_getElem.1 he;have:=h j hj;simpa[List.getD,hj]using this
structure dL(w wr:World)(n:Nat)(S A T:List Int)(ba bt bg:Nat):Prop where
 base:KG w wr S
 la:wr.heap[ba]?=some (.cells (ints A) 3 (0,0))
 lt:wr.heap[bt]?=some (.cells (ints T) 3 (0,0))
 lg:wr.heap[bg]?=some (.cells #[.slice (some ⟨w.heap.size+1,0,none⟩) (n+1) (n+1),.slice (some ⟨ba,0,none⟩) A.length A.length,.slice (some ⟨bt,0,none⟩) T.length T.length] 32 (0,0))
 ha:w.heap.size+1<ba
 ht:w.heap.size+1<bt
 hg:w.heap.size+1<bg
 hat:ba≠bt
 hag:ba≠bg
 htg:bt≠bg
theorem dL.more{w wr w':World}{n:Nat}{S A T:List Int}{ba bt bg:Nat}(h:dL w wr n S A T ba bt bg)(hb:Below wr.heap.size wr w'):dL w w' n S A T ba bt bg:=
 ⟨h.base.more hb,Ah hb h.la,Ah hb h.lt,Ah hb h.lg,h.ha,h.ht,h.hg,h.hat,h.hag,h.htg⟩
theorem FR {w wr w':World} {n k:Nat} {S:List Int} (ba bt bg:Nat) (hB:KG w wr S) (hb:Below wr.heap.size wr w')
 (la:w'.heap[ba]?=some (.cells (madeCells #[.int .i64 0] k) 3 (0,0))) (lt:w'.heap[bt]?=some (.cells (madeCells #[.int .i64 0] k) 3 (0,0)))
 (lg:w'.heap[bg]?=some (.cells #[.slice (some ⟨w.heap.size+1,0,none⟩) (n+1) (n+1),.slice (some ⟨ba,0,none⟩) k k,.slice (some ⟨bt,0,none⟩) k k] 32 (0,0)))
 (ha:wr.heap.size≤ba) (ht:wr.heap.size≤bt) (hg:wr.heap.size≤bg) (hat:ba≠bt) (hag:ba≠bg) (htg:bt≠bg):
 ∃a t g:Nat,Value.pointer (some ⟨bg,0,none⟩)=.pointer (some ⟨g,0,none⟩)∧dL w w' n S (List.replicate k 0) (List.replicate k 0) a t g:=by
 have hz:=hB.size;have e:madeCells #[Value.int .i64 0] k=ints (List.replicate k 0):=by rw[Ge,← DP]
 rw[e]at la lt;exact⟨ba,bt,bg,rfl,hB.more hb,la,lt,by simpa using lg,by omega,by omega,by omega,hat,hag,htg⟩
theorem Ba(w:World)(o1 o2 o3:Obj):(((w.alloc o1).alloc o2).alloc o3).heap[w.heap.size]?=some o1∧(((w.alloc o1).alloc o2).alloc o3).heap[w.heap.size+1]?=some o2∧
 (((w.alloc o1).alloc o2).alloc o3).heap[w.heap.size+1+1]?=some o3∧Below w.heap.size w (((w.alloc o1).alloc o2).alloc o3):=by
 have h1:=Ar w o1;have h2:=AG (w.alloc o1) o2 (w.heap.size+1) (by simp);have h3:=AG ((w.alloc o1).alloc o2) o3 (w.heap.size+1+1) (by simp);exact⟨Ah (Ae _ _) (Ah (Ae _ _) h1),Ah (Ae _ _) h2,h3,(((Ak _ _).alloc (AQ _) _).alloc (by simp) _).alloc (by simp;omega) _⟩
structure Ka(w wr:World)(n:Nat)(S N A T:List Int)(ba bt bg bn:Nat):Prop where
 c:dL w wr n S A T ba bt bg
 ln:wr.heap[bn]?=some (.cells (ints N) 3 (0,0))
 hn:w.heap.size+1<bn
 han:ba≠bn
 htn:bt≠bn
 hgn:bg≠bn
theorem Ka.size{w wr:World}{n:Nat}{S N A T:List Int}{ba bt bg bn:Nat}(h:Ka w wr n S N A T ba bt bg bn):w.heap.size<wr.heap.size:=by
 have:=h.c.base.size;omega
theorem Ka.more{w wr w':World}{n:Nat}{S N A T:List Int}{ba bt bg bn:Nat}(h:Ka w wr n S N A T ba bt bg bn)(hb:Below wr.heap.size wr w'):Ka w w' n S N A T ba bt bg bn:=
 ⟨h.c.more hb,Ah hb h.ln,h.hn,h.han,h.htn,h.hgn⟩
theorem Ka.drew{w wr:World}{n:Nat}{S N A T:List Int}{ba bt bg bn:Nat}(h:Ka w wr n S N A T ba bt bg bn):Ka w wr.drew n S N A T ba bt bg bn:=
 ⟨⟨h.c.base.drew,h.c.la,h.c.lt,h.c.lg,h.c.ha,h.c.ht,h.c.hg,h.c.hat,h.c.hag,h.c.htg⟩,h.ln,h.hn,h.han,h.htn,h.hgn⟩
theorem KG.other{w wr:World}{S:List Int}(h:KG w wr S){q:Nat}(hq:w.heap.size+1<q)(p:Nat)(v:Value):KG w (wr.setCell ⟨q,p,none⟩ v) S:=
 ⟨h.below.setCell (p:=⟨q,p,none⟩) (by show w.heap.size≤q;omega) _,by rw[Below.heap_setCell _ _ _ _ (by show w.heap.size≠q;omega)];exact h.res,
  by rw[Below.heap_setCell _ _ _ _ (by show w.heap.size+1≠q;omega)];exact h.st⟩
theorem Ka.setA{w wr:World}{n:Nat}{S N A T:List Int}{ba bt bg bn:Nat}(h:Ka w wr n S N A T ba bt bg bn)(p:Nat)(v:Int):Ka w (wr.setCell ⟨ba,p,none⟩ (.int .i64 v)) n S N (A.set p v) T ba bt bg bn:=by
 have ho:∀(k:Nat) (o:Obj),ba≠k→wr.heap[k]?=some o→(wr.setCell ⟨ba,p,none⟩ (.int .i64 v)).heap[k]?=some o:=fun k o hk hh=>by rw[Below.heap_setCell _ _ _ _ (fun e=>hk e.symm)];exact hh
 exact⟨⟨h.c.base.other h.c.ha p _,by rw[Ac h.c.la,Fc],ho _ _ h.c.hat h.c.lt,by rw[List.length_set];exact ho _ _ h.c.hag h.c.lg,h.c.ha,h.c.ht,h.c.hg,h.c.hat,h.c.hag,h.c.htg⟩,ho _ _ h.han h.ln,h.hn,h.han,h.htn,h.hgn⟩
theorem Ka.setT{w wr:World}{n:Nat}{S N A T:List Int}{ba bt bg bn:Nat}(h:Ka w wr n S N A T ba bt bg bn)(p:Nat)(v:Int):Ka w (wr.setCell ⟨bt,p,none⟩ (.int .i64 v)) n S N A (T.set p v) ba bt bg bn:=by
 have ho:∀(k:Nat) (o:Obj),bt≠k→wr.heap[k]?=some o→(wr.setCell ⟨bt,p,none⟩ (.int .i64 v)).heap[k]?=some o:=fun k o hk hh=>by rw[Below.heap_setCell _ _ _ _ (fun e=>hk e.symm)];exact hh
 exact⟨⟨h.c.base.other h.c.ht p _,ho _ _ (Ne.symm h.c.hat) h.c.la,by rw[Ac h.c.lt,Fc],by rw[List.length_set];exact ho _ _ h.c.htg h.c.lg,h.c.ha,h.c.ht,h.c.hg,h.c.hat,h.c.hag,h.c.htg⟩,ho _ _ h.htn h.ln,h.hn,h.han,h.htn,h.hgn⟩
theorem Ka.setN{w wr:World}{n:Nat}{S N A T:List Int}{ba bt bg bn:Nat}(h:Ka w wr n S N A T ba bt bg bn)(p:Nat)(v:Int):Ka w (wr.setCell ⟨bn,p,none⟩ (.int .i64 v)) n S (N.set p v) A T ba bt bg bn:=by
 have ho:∀(k:Nat) (o:Obj),bn≠k→wr.heap[k]?=some o→(wr.setCell ⟨bn,p,none⟩ (.int .i64 v)).heap[k]?=some o:=fun k o hk hh=>by rw[Below.heap_setCell _ _ _ _ (fun e=>hk e.symm)];exact hh
 exact⟨⟨h.c.base.other h.hn p _,ho _ _ (Ne.symm h.han) h.c.la,ho _ _ (Ne.symm h.htn) h.c.lt,ho _ _ (Ne.symm h.hgn) h.c.lg,h.c.ha,h.c.ht,h.c.hg,h.c.hat,h.c.hag,h.c.htg⟩,by rw[Ac h.ln,Fc],h.hn,h.han,h.htn,h.hgn⟩
theorem Ka.intro{w wc w5:World}{n:Nat}{S N A T:List Int}{ba bt bg:Nat}(hc:dL w wc n S A T ba bt bg)(hb:Below wc.heap.size wc w5)(ln:w5.heap[wc.heap.size]?=some (.cells (ints N) 3 (0,0))):Ka w w5 n S N A T ba bt bg wc.heap.size:=by
 have h1:=(BO.1 hc.la).1;have h2:=(BO.1 hc.lt).1;have h3:=(BO.1 hc.lg).1;exact⟨hc.more hb,ln,hc.base.size,by omega,by omega,by omega⟩
theorem Ka.facts{w wr:World}{n:Nat}{S N A T:List Int}{ba bt bg bn:Nat}(h:Ka w wr n S N A T ba bt bg bn)(p f:Nat)(hf:f<N.length):
 wr.cell? ⟨bg,1,none⟩=some (.slice (some ⟨ba,0,none⟩) A.length A.length)∧wr.cell? ⟨bg,2,none⟩=some (.slice (some ⟨bt,0,none⟩) T.length T.length)∧
 wr.cell? ⟨bn,f,none⟩=some (.int .i64 (N.getD f 0))∧wr.frozen? ⟨ba,p,none⟩=false∧wr.frozen? ⟨bt,p,none⟩=false∧wr.frozen? ⟨bn,f,none⟩=false:=
 ⟨Ab h.c.lg 1 _ rfl,Ab h.c.lg 2 _ rfl,Ab h.ln f _ (Bw N f hf),Ag h.c.la p,Ag h.c.lt p,Ag h.ln f⟩
theorem Ka.vals{w wr:World}{n:Nat}{S N A T:List Int}{ba bt bg bn:Nat}(h:Ka w wr n S N A T ba bt bg bn)(p:Nat)(ha:p<A.length)(ht:p<T.length):
 wr.cell? ⟨ba,p,none⟩=some (.int .i64 (A.getD p 0))∧wr.cell? ⟨bt,p,none⟩=some (.int .i64 (T.getD p 0)):=
 ⟨Ab h.c.la p _ (Bw A p ha),Ab h.c.lt p _ (Bw T p ht)⟩
theorem Ka.lts{w wr:World}{n:Nat}{S N A T:List Int}{ba bt bg bn:Nat}(h:Ka w wr n S N A T ba bt bg bn):ba<wr.heap.size∧bt<wr.heap.size∧bg<wr.heap.size∧bn<wr.heap.size:=
 ⟨(BO.1 h.c.la).1,(BO.1 h.c.lt).1,(BO.1 h.c.lg).1,(BO.1 h.ln).1⟩
theorem Ka.done{w wr:World}{n:Nat}{S N A T:List Int}{ba bt bg bn:Nat}(h:Ka w wr n S N A T ba bt bg bn)(hS:S.length=n+1)(h1:n≤100000)(h2:A.length≤1000000)(h3:T.length≤1000000)(x y z:Value):
 Ao (((wr.setCell ⟨w.heap.size,0,none⟩ x).setCell ⟨w.heap.size,1,none⟩ y).setCell ⟨w.heap.size,2,none⟩ z)
  (.agg #[.slice (some ⟨w.heap.size+1,0,none⟩) (n+1) (n+1),.slice (some ⟨ba,0,none⟩) A.length A.length,.slice (some ⟨bt,0,none⟩) T.length T.length]) ⟨S,A,T⟩:=by
 have ho:∀(k:Nat) (o:Obj),w.heap.size<k→wr.heap[k]?=some o→(((wr.setCell ⟨w.heap.size,0,none⟩ x).setCell ⟨w.heap.size,1,none⟩ y).setCell ⟨w.heap.size,2,none⟩ z).heap[k]?=some o:=fun k o hk hh=>by
  rw[Below.heap_setCell _ _ _ _ (by show k≠w.heap.size;omega),Below.heap_setCell _ _ _ _ (by show k≠w.heap.size;omega),Below.heap_setCell _ _ _ _ (by show k≠w.heap.size;omega)];exact hh
 have ha:=h.c.ha;have ht:=h.c.ht;exact⟨⟨_,_,_,rfl,BQ (ho _ _ (by omega) h.c.base.st) hS.symm _,BQ (ho _ _ (by omega) h.c.la) rfl _,BQ (ho _ _ (by omega) h.c.lt) rfl _⟩,by show S.length≤_;omega,h2,h3⟩
theorem JC{w w':World}{n:Nat}{l:List Ed}{v:Value}(h:AY n l=true)(hb:Below w.heap.size w w')(hv:Ao w' v (Iq n l)):
 Ff w (Ai n l) (DF n l) (.returned (.tuple #[v,.int .i64 0])) w':=by
 have e1:Ai n l=Iq n l:=by simp[Ai,h]
 have e2:DF n l=0:=by simp[DF,h]
 rw[e1,e2];exact⟨_,rfl,hv,hb⟩
theorem YP{w:World}{b:Nat}{S:List Int}(h:w.heap[b]?=some (.cells (ints S) 3 (0,0)))(j:Nat)(v:Value)(hv:(S.map (Value.int .i64))[j]?=some v):w.cell? ((⟨b,0,none⟩:Addr).add j)=some v:=by
 rw[List.getElem?_map]at hv;obtain⟨x,hx,rfl⟩:=Option.map_eq_some_iff.1 hv;have hj:j<S.length:=(List.getElem?_eq_some_iff.1 hx).1;have:=Ab h j _ (Bw S j hj);have e:S.getD j 0=x:=by simp[List.getD,hx]
 rw[e]at this;by_cases h0:j=0
 ·subst h0;simpa[Addr.add]using this
 ·simpa[Addr.add,h0]using this
theorem SJ(S:List Int)(n:Nat)(hn:S.length=n):(splice (List.replicate n (Value.int .i64 0)) 0 (S.map (Value.int .i64))).toArray=ints S:=by
 unfold splice ints;have:List.drop (0+(S.map (Value.int .i64)).length) (List.replicate n (Value.int .i64 0))=[]:=by simp[hn]
 rw[this];simp
theorem cD {P:Program} {ops:Array Oper} {rest:List Oper} {dst:Option Tmp} {ar:Array Operand} {at':Array TypeId} {t:TypeId} {p:String} {af:Array Edge} {gd:Option (Nat×Bool)} {Q:Exit→Act→World→Prop} {a:Act} {w:World}
 (h:wpList P ops Q ({dst:=dst,op:=.call {callee:=.builtin .copy,args:=ar,argTypes:=at'},type:=t,pos:=p,after:=af,guard:=gd}::rest) a w):
 wpList P ops Q ({dst:=dst,op:=.call {callee:=.builtin .copy,args:=ar,argTypes:=at'},type:=t,pos:=p,after:=af,guard:=gd}::rest) a w:=h
theorem Tryz.info3:(Tryz.prog.info? 3).map (fun i=>(i.zero,i.size,i.bytes))=some (some (.int .i64 0),1,8):=by kernel_rfl
theorem Rp(n:Int)(v:Value)(w:World)(h:¬(0≤n∧n≤100000)):
 Calls Tryz.prog 120 #[.int .i64 n,v] w (Ff w ⟨[],[],[]⟩ 1):=by
 by_cases h0:n<0
 ·go_enter Tryz.func120,Tryz.ntmps120;go_wp2_with fail
  refine Bd (v:=.tuple #[.agg #[.slice none 0 0,.slice none 0 0,.slice none 0 0],.int .i64 1]) (by simp[results,Tryz.results120,go_sem]) rfl ?_;exact⟨_,rfl,DB _,Ae w _⟩
 ·go_enter Tryz.func120,Tryz.ntmps120;go_wp2_with fail
  refine Bd (v:=.tuple #[.agg #[.slice none 0 0,.slice none 0 0,.slice none 0 0],.int .i64 1]) (by simp[results,Tryz.results120,go_sem]) rfl ?_;exact⟨_,rfl,DB _,Ae w _⟩
theorem XT(n:Nat)(v:Value)(l:List Ed)(w:World)(hn:n≤100000)(h:Ax w v l)(hl:l.length≤1000000):
 Calls Tryz.prog 120 #[.int .i64 (n:Nat),v] w (Ff w (Ai n l) (DF n l)):=by
 obtain⟨a,ac,rfl,ha⟩:=h;have HA:=Aa ha;clear ha;go_enter Tryz.func120,Tryz.ntmps120;go_wp2_with (at_make;refine BE _ rfl (.tmp 23) (.tmp 23) 22 rfl 3 (.int .i64 0) rfl 8 Tryz.underlying22 Tryz.info3 .i64 .i64 ((n:Int)+1) ((n:Int)+1) (n+1) rfl rfl (by simp) (by simp) (by omega) (by unfold maxLen;omega) ?_;intro w1 hh1 hb1 hlt1)
 have hst:KG w w1 (ZD n (l.take 0)):=⟨(Ae w _).trans (hb1.mono (by simp)),Ah hb1 (Ar w _),by rw[List.take_zero,aM,Ge];simpa using hh1⟩;rw[World.size_alloc]at hh1;have e1:(w.alloc (.cells #[.slice none 0 0,.slice none 0 0,.slice none 0 0] 32)).heap.size=w.heap.size+1:=World.size_alloc _ _
 try rw[e1]
 clear hh1 hb1 hlt1 e1;go_loopg [8,27] l.length (fun fu _ c wr=>∃k:Nat,k+fu=l.length∧c=.int .i64 k∧(∀j,j<k→Mg n (l.getD j (0,0,0))=true)∧KG w wr (ZD n (l.take k)))
 case atStart=>exact⟨0,by omega,rfl,fun j hj=>by omega,hst⟩
 case round=>
  clear hst;obtain⟨k,hk,rfl,hall,hB⟩:=hrel;have HH:=Aa hall;clear hall;by_cases hlt:k<l.length
  ·obtain⟨b,off,rfl,d1,d2,d3⟩:=HA.out k hlt;obtain⟨y1,y2,y3⟩:=JN hB.below d1 d2 d3;clear d1 d2 d3;have hbad:=fun hno=>LI (n:=n) hlt hno;have hok1:Mg n (l.getD k (0,0,0))=true→∀j,j<k+1→Mg n (l.getD j (0,0,0))=true:=fun hy j hj=>by
    by_cases hjk:j=k
    ·rw[hjk];exact hy
    ·exact HH.out j (by omega)
   have hstep:=fun(f:Nat) (hf:(l.getD k (0,0,0)).1=(f:Int)) (hfn:f<n)=>XK (n:=n) hlt hf hfn;have H1:=Aa hbad;have H2:=Aa hok1;have H3:=Aa hstep;clear hbad hok1 hstep;generalize l.getD k (0,0,0)=e at*;obtain⟨ef,ea,et⟩:=e;have hb2:=Ae wr (.cells #[.int .i64 ef,.int .i64 ea,.int .i64 et] 54);have hB2:=hB.more hb2;have hsz:=hB.size;have r0:=hB2.rcell 0 (by omega);have r1:=hB2.rcell 1 (by omega);have r2:=hB2.rcell 2 (by omega);have f0:=hB2.rfree 0;have f1:=hB2.rfree 1;have f2:=hB2.rfree 2;by_cases t1:ef<0
   ·have E1:=Aa (H1.out (fun hy=>by simp[Mg]at hy;omega));have HB:=Aa hB2;clear hb2 hB2;go_wp2_with fail
    obtain⟨q1,q2,q3,q4⟩:=HB.out.ret (.slice none 0 0) (.slice none 0 0) (.slice none 0 0);refine Bd (v:=.tuple #[.agg #[.slice none 0 0,.slice none 0 0,.slice none 0 0],.int .i64 1]) (by simp[results,Tryz.results120,go_sem,q2,q3,q4]) rfl ?_;exact Ce E1.out q1
   by_cases t2:ef≥n
   ·have E1:=Aa (H1.out (fun hy=>by simp[Mg]at hy;omega));have HB:=Aa hB2;clear hb2 hB2;go_wp2_with fail
    obtain⟨q1,q2,q3,q4⟩:=HB.out.ret (.slice none 0 0) (.slice none 0 0) (.slice none 0 0);refine Bd (v:=.tuple #[.agg #[.slice none 0 0,.slice none 0 0,.slice none 0 0],.int .i64 1]) (by simp[results,Tryz.results120,go_sem,q2,q3,q4]) rfl ?_;exact Ce E1.out q1
   by_cases t3:et<0
   ·have E1:=Aa (H1.out (fun hy=>by simp[Mg]at hy;omega));have HB:=Aa hB2;clear hb2 hB2;go_wp2_with fail
    obtain⟨q1,q2,q3,q4⟩:=HB.out.ret (.slice none 0 0) (.slice none 0 0) (.slice none 0 0);refine Bd (v:=.tuple #[.agg #[.slice none 0 0,.slice none 0 0,.slice none 0 0],.int .i64 1]) (by simp[results,Tryz.results120,go_sem,q2,q3,q4]) rfl ?_;exact Ce E1.out q1
   by_cases t4:et≥n
   ·have E1:=Aa (H1.out (fun hy=>by simp[Mg]at hy;omega));have HB:=Aa hB2;clear hb2 hB2;go_wp2_with fail
    obtain⟨q1,q2,q3,q4⟩:=HB.out.ret (.slice none 0 0) (.slice none 0 0) (.slice none 0 0);refine Bd (v:=.tuple #[.agg #[.slice none 0 0,.slice none 0 0,.slice none 0 0],.int .i64 1]) (by simp[results,Tryz.results120,go_sem,q2,q3,q4]) rfl ?_;exact Ce E1.out q1
   by_cases t5:ea<0
   ·have E1:=Aa (H1.out (fun hy=>by simp[Mg]at hy;omega));have HB:=Aa hB2;clear hb2 hB2;go_wp2_with fail
    obtain⟨q1,q2,q3,q4⟩:=HB.out.ret (.slice none 0 0) (.slice none 0 0) (.slice none 0 0);refine Bd (v:=.tuple #[.agg #[.slice none 0 0,.slice none 0 0,.slice none 0 0],.int .i64 1]) (by simp[results,Tryz.results120,go_sem,q2,q3,q4]) rfl ?_;exact Ce E1.out q1
   ·obtain⟨f,rfl⟩:∃f:Nat,ef=(f:Int):=⟨ef.toNat,by omega⟩;have E2:=Aa (H2.out (by simp[Mg];omega));obtain⟨g1,g2⟩:=H3.out f rfl (by omega);have hcl:Fv (l.take k) f≤1000000:=CP (Xx (l.take k) f) (by rw[List.length_take];omega);have hc:=hB2.cell (f+1) (by rw[ZD,AJ];omega);rw[g1]at hc;have hfr:=hB2.free (f+1);have HB:=Aa (by have:=hB.set (f+1) ((Fv (l.take k) f:Int)+1);rw[g2]at this;exact this.more (Ae _ (.cells #[.int .i64 f,.int .i64 ea,.int .i64 et] 54)));clear hb2 hB2 g1 g2;go_wp2_with fail
    go_roundg (gk - 1)
    case measure=>omega
    case rel=>exact⟨k+1,by omega,rfl,E2.out,HB.out⟩
  ·obtain rfl:gk=0:=by omega
   obtain rfl:k=l.length:=by omega
   have hbo:=Kd hn HH.out;clear HH;rw[Ez]at hB;have hoks:∀e∈l,0≤e.1∧e.1<(n:Int):=fun e he=>by
    simp only[AY,Ci,List.all_eq_true,Mg,decide_eq_true_eq]at hbo;have:=hbo.2 e he;omega
   have h0:∀e∈l,0≤e.1:=fun e he=>(hoks e he).1;have hln:∀e∈l,e.1<(n:Int):=fun e he=>(hoks e he).2;clear hoks;rw[XM n h0]at hB;have HO:=Aa hbo;have H0:=Aa h0;have HN:=Aa hln;clear h0 hln hbo;obtain⟨wr1,rfl⟩:∃z:World,z=wr:=⟨_,rfl⟩;go_wp2_with fail
   go_loopg [9,67] n (fun fu _ c wr=>∃i:Nat,i+fu=n∧c=.int .i64 i∧KG w wr (Zn n l i))
   case atStart=>exact⟨0,by omega,rfl,hB⟩
   case round=>
    clear hB;obtain⟨i,hi,rfl,hB⟩:=hrel;by_cases hlt:i<n
    ·obtain⟨g1,g2,g3⟩:=Xp (n:=n) (l:=l) hlt;have c1:=hB.cell (i+1) (by rw[Zn,AJ];omega);have c2:=hB.cell i (by rw[Zn,AJ];omega);have hfr:=hB.free (i+1);rw[g1]at c1;rw[g2]at c2;have HB:=Aa (by have:=hB.drew.set (i+1) ((Fv l i:Int)+(Bl l i:Int));rw[g3]at this;exact this);clear hB g1 g2 g3;have k1:=Xx l i;have k2:=Ob l i;have e1:IntKind.i64.wrap ((i:Int)+1)=((i+1:Nat):Int):=by rw[DS _ (by omega)];simp
     have e2:IntKind.i64.wrap ((Fv l i:Int)+(Bl l i:Int))=(Fv l i:Int)+(Bl l i:Int):=by rw[DS _ (by omega)]
     have b1:(i:Int)+1<(n:Int)+1:=by omega
     have b2:(i:Int)<(n:Int)+1:=by omega
     have b3:(i:Int)<(n:Int):=by omega
     have b4:(0:Int)≤(i:Int)+1:=by omega
     go_wp2_with fail
     refine Bo 11 (by kernel_rfl) (by kernel_rfl) ?_;simp only[List.take_succ_cons,List.take_zero,List.drop_succ_cons,List.drop_zero];repeat still_step
     refine wpStill_nil ?_;clear e1;go_wp2_with fail
     go_roundg (gk - 1)
     case measure=>omega
     case rel=>exact⟨i+1,by omega,rfl,HB.out⟩
    ·obtain rfl:gk=0:=by omega
     obtain rfl:i=n:=by omega
     rw[aN]at hB;obtain⟨wr2,rfl⟩:∃z:World,z=wr:=⟨_,rfl⟩;have hmk:=run_make_row' (P:=Tryz.prog) 22 3 (.int .i64 0) 8 Tryz.underlying22 Tryz.info3 rfl .i64 .i64 l.length (by omega) (by omega);have HB:=Aa hB;clear hB;go_wp2_with fail
     go_cut [10] (fun t10 wx=>∃ba bt bg:Nat,t10=.pointer (some ⟨bg,0,none⟩)∧dL w wx i (Iq i l).S (List.replicate l.length 0) (List.replicate l.length 0) ba bt bg)
     case first=>
      go_region
      all_goals go_wp2_with fail
      all_goals go_meet
      all_goals first
       | exact FR wr2.heap.size (wr2.heap.size+1) (wr2.heap.size+1+1) HB.out (Ba wr2 _ _ _).2.2.2.drew (Ba wr2 _ _ _).1 (Ba wr2 _ _ _).2.1 (Ba wr2 _ _ _).2.2.1 (by omega) (by omega) (by omega) (by omega) (by omega) (by omega)
       | exact FR wr2.heap.size (wr2.heap.size+1+1) (wr2.heap.size+1) HB.out (Ba wr2 _ _ _).2.2.2.drew (Ba wr2 _ _ _).1 (Ba wr2 _ _ _).2.2.1 (Ba wr2 _ _ _).2.1 (by omega) (by omega) (by omega) (by omega) (by omega) (by omega)
       | exact FR (wr2.heap.size+1) wr2.heap.size (wr2.heap.size+1+1) HB.out (Ba wr2 _ _ _).2.2.2.drew (Ba wr2 _ _ _).2.1 (Ba wr2 _ _ _).1 (Ba wr2 _ _ _).2.2.1 (by omega) (by omega) (by omega) (by omega) (by omega) (by omega)
       | exact FR (wr2.heap.size+1) (wr2.heap.size+1+1) wr2.heap.size HB.out (Ba wr2 _ _ _).2.2.2.drew (Ba wr2 _ _ _).2.1 (Ba wr2 _ _ _).2.2.1 (Ba wr2 _ _ _).1 (by omega) (by omega) (by omega) (by omega) (by omega) (by omega)
       | exact FR (wr2.heap.size+1+1) wr2.heap.size (wr2.heap.size+1) HB.out (Ba wr2 _ _ _).2.2.2.drew (Ba wr2 _ _ _).2.2.1 (Ba wr2 _ _ _).1 (Ba wr2 _ _ _).2.1 (by omega) (by omega) (by omega) (by omega) (by omega) (by omega)
       | exact FR (wr2.heap.size+1+1) (wr2.heap.size+1) wr2.heap.size HB.out (Ba wr2 _ _ _).2.2.2.drew (Ba wr2 _ _ _).2.2.1 (Ba wr2 _ _ _).2.1 (Ba wr2 _ _ _).1 (by omega) (by omega) (by omega) (by omega) (by omega) (by omega)
     case rest=>
      clear hmk HB;obtain⟨ba,bt,bg,rfl,hC⟩:=hcut;have hsl:=Lh i l;have hnz:nx i l 0=(Iq i l).S:=aX i l;have hbo:=HO.out;generalize hSS:(Iq i l).S=S at*;have HS:=Aa hSS;have HC:=Aa hC;have HNX:=Aa hnz;clear hSS hC hnz hbo;go_wp2_with (first
       | (at_make;refine BE _ rfl (.tmp 91) (.tmp 91) 22 rfl 3 (.int .i64 0) rfl 8 Tryz.underlying22 Tryz.info3 .i64 .i64 ((i:Int)+1) ((i:Int)+1) (i+1) rfl rfl (by simp) (by simp) (by omega) (by unfold maxLen;omega) ?_;intro w4 hh4 hb4 hlt4;have HC4:=Aa (HC.out.more hb4);have HH4:=Aa hh4;have HB4:=Aa hb4;clear hh4 hb4)
       | (with_reducible refine cD ?_;refine wpList_copy_splice rfl (.tmp 93) (.tmp 94) 22 22 rfl 3 Tryz.underlying22 (by kernel_rfl) (some ⟨wc.heap.size,0,none⟩) (some ⟨w.heap.size+1,0,none⟩) (i+1) (i+1) (i+1) (i+1) rfl rfl wc.heap.size 0 (List.replicate (i+1) (.int .i64 0)) 3 HH4.out (S.map (Value.int .i64)) (by simp[hsl]) (fun _=>⟨rfl,_,rfl,fun j v hv=>YP HC4.out.base.st j v hv⟩) (by simp[hsl]) (by simp[Value.oneCell']) wc.heap.size wc HB4.out (AQ _) ?_;intro w5 hh5 hb5;have HH5:=Aa (SJ S (i+1) hsl▸hh5.out);have HB5:=Aa hb5;clear hh5 hb5))
      have hD:Ka w w5 i S (nx i l 0) (List.replicate l.length 0) (List.replicate l.length 0) ba bt bg wc.heap.size:=Ka.intro HC.out HB5.out (by rw[HNX.out];exact HH5.out);have hcA:JV i l (fun e=>e.2.1) 0 (List.replicate l.length 0):=⟨by simp,fun x _ r hr=>by simp[Fv,De]at hr⟩;have hcT:JV i l (fun e=>e.2.2) 0 (List.replicate l.length 0):=⟨by simp,fun x _ r hr=>by simp[Fv,De]at hr⟩;clear HC HC4 HH4 HB4 HH5 HB5 hlt4 HNX;generalize wc.heap.size=bn at*;go_loopg [13,14,98] l.length (fun fu _ _ c wr=>∃(k:Nat) (A T:List Int),k+fu=l.length∧c=.int .i64 k∧JV i l (fun e=>e.2.1) k A∧JV i l (fun e=>e.2.2) k T∧Ka w wr i S (nx i l k) A T ba bt bg bn)
      case atStart=>exact⟨0,_,_,by omega,rfl,hcA,hcT,hD⟩
      case round=>
       clear hD hcA hcT;obtain⟨k,A,T,hk,rfl,hcA,hcT,hD⟩:=hrel;have hAl:A.length=l.length:=hcA.1;have hTl:T.length=l.length:=hcT.1;by_cases hlt:k<l.length
       ·obtain⟨f,hf,hfn⟩:=Uq hlt HO.out;obtain⟨s1,s2⟩:=LH hcA HN.out hlt hf hfn;obtain⟨s3,s4⟩:=LH hcT HN.out hlt hf hfn;obtain⟨s5,s6⟩:=aY (n:=i) hlt hf hfn;obtain⟨p,hp⟩:∃p:Nat,Bl l f+Fv (l.take k) f=p:=⟨_,rfl⟩;rw[hp]at s1 s2 s3 s4 s5 s6;clear hp;obtain⟨b,off,rfl,d1,d2,d3⟩:=HA.out k hlt;obtain⟨y1,y2,y3⟩:=JN hD.c.base.below d1 d2 d3;clear d1 d2 d3;generalize l.getD k (0,0,0)=e at*;obtain⟨ef,ea,et⟩:=e;obtain rfl:ef=(f:Int):=hf;have hD2:=hD.more (Ae wr (.cells #[.int .i64 f,.int .i64 ea,.int .i64 et] 54));obtain⟨c1,c2,c3,f1,f2,f3⟩:=hD2.facts p f (by rw[nx,AJ];omega);rw[s5]at c3;obtain⟨v1,-⟩:=hD2.vals p (by omega) (by omega);have hD3:=(hD.setA p ea).more (Ae _ (.cells #[.int .i64 f,.int .i64 ea,.int .i64 et] 54));have hD4:=((hD.setA p ea).setT p et).more (Ae _ (.cells #[.int .i64 f,.int .i64 ea,.int .i64 et] 54));obtain⟨-,v2⟩:=hD3.vals p (by rw[List.length_set];omega) (by omega);obtain⟨-,c4,-,-,f4,-⟩:=hD3.facts p f (by rw[nx,AJ];omega);obtain⟨-,-,c6,-,-,f6⟩:=hD4.facts p f (by rw[nx,AJ];omega);rw[s5]at c6;rw[hTl]at c4;obtain⟨-,c5,-,-,f5,-⟩:=(hD.setA p ea).facts p f (by rw[nx,AJ];omega);rw[hTl]at c5;obtain⟨-,v5⟩:=(hD.setA p ea).vals p (by rw[List.length_set];omega) (by omega);obtain⟨l1,l2,l3,l4⟩:=hD.lts;have n1:=hD.c.hat;have n2:=hD.han;have n3:=hD.htn;rw[hAl]at c1;rw[hTl]at c2;have S1:=Aa s2;have S2:=Aa s4;have HD:=Aa (by have:=((hD.setA p ea).setT p et).setN f ((p:Int)+1);rw[s6]at this;exact this);have hsz:=hD.size;clear hD hD2 hD3 hD4 hcA hcT s2 s4 s5 s6 hAl hTl s3;have b1:(p:Int)<(l.length:Int):=by omega
        have b2:(f:Int)<(i:Int)+1:=by omega
        go_wp2_with fail
        go_region
        all_goals go_wp2_with fail
        go_roundg (gk - 1)
        case measure=>omega
        case rel=>exact⟨k+1,A.set p ea,T.set p et,by omega,rfl,S1.out,S2.out,(HD.out.more (Ae _ _)).drew⟩
       ·obtain rfl:gk=0:=by omega
        obtain rfl:k=l.length:=by omega
        have eA:=NG H0.out HN.out hcA;have eT:=NG H0.out HN.out hcT;have HE:=Aa (show Iq i l=⟨S,A,T⟩ by rw[eA,eT,← HS.out];rfl);have HBO:=HO;have r0:=hD.c.base.rcell 0 (by omega);have r1:=hD.c.base.rcell 1 (by omega);have r2:=hD.c.base.rcell 2 (by omega);have g0:=hD.c.base.rfree 0;have g1:=hD.c.base.rfree 1;have g2:=hD.c.base.rfree 2;obtain⟨c0,c1,c2⟩:=DY hD.c.lg;have HD:=Aa hD;clear hD hcA hcT eA eT;go_wp2_with fail
        obtain⟨q1,q2,q3,q4⟩:=HD.out.c.base.ret (.slice (some ⟨w.heap.size+1,0,none⟩) (i+1) (i+1)) (.slice (some ⟨ba,0,none⟩) l.length l.length) (.slice (some ⟨bt,0,none⟩) l.length l.length);refine Bd (v:=.tuple #[.agg #[.slice (some ⟨w.heap.size+1,0,none⟩) (i+1) (i+1),.slice (some ⟨ba,0,none⟩) l.length l.length,.slice (some ⟨bt,0,none⟩) l.length l.length],.int .i64 0]) (by simp[results,Tryz.results120,go_sem,q2,q3,q4]) rfl ?_;have hd:=HD.out.done hsl hn (by omega) (by omega) (.slice (some ⟨w.heap.size+1,0,none⟩) (i+1) (i+1)) (.slice (some ⟨ba,0,none⟩) l.length l.length) (.slice (some ⟨bt,0,none⟩) l.length l.length);rw[hAl,hTl,← HE.out]at hd;exact JC HBO.out q1 hd
end Go.Proofs.YtlhpjfnfemebdaaGreat
