/- What a law's row asks behind the call, from two facts -/
import Derived.Test.YtlhpjfnfemebdaaGreatRows
import Derived.ProofKit
import Derived.OpenShut
import Derived.Carry
import Derived.JoinedCond
import Derived.Test.YtlhpjfnfemebdaaGreatJBase
import Derived.Deep.Grids
import Derived.Deep.Strs
import Derived.Test.YtlhpjfnfemebdaaGreatJMachP
import Derived.Test.YtlhpjfnfemebdaaGreatJMachY
import Derived.Test.YtlhpjfnfemebdaaGreatJPartsMem
import Derived.Lib.SliceRun
import Derived.Test.YtlhpjfnfemebdaaGreatMade2
set_option maxRecDepth 100000
set_option maxHeartbeats 64000000
set_option linter.unusedSimpArgs false
namespace Go.Proofs.YtlhpjfnfemebdaaGreat
open Go.RowKit
open Go.ChangeShapes Go.WideShapes Go.ChangeAt Go.RowKit
section
variable {H:Type} {enc:TypeId×Value→H} {P:Program}
theorem JG(hl:laidOutB P=true){W W':World}(hb:Below W.heap.size W W'):∀(ts:List TypeId) (vs:List Value) (ds:List (DataW H)) (ps:List MemPlace),
 (∀t∈ts,P.readableRec t=true∧t<P.types.size)→DataW.TrodAll enc P W 0 (fun _=>true) true ts vs ds ps→(∀x∈ps,x.block<W.heap.size)→
 DataW.TrodAll enc P W' 0 (fun b=>decide (b<W.heap.size)) true ts vs ds ps
 | [],vs,ds,ps,_,h,_=>by
  obtain⟨rfl,rfl,rfl⟩:=trodAll_nil h;exact trodAll_mk0
 | t::ts,vs,ds,ps,ht,h,hlt=>by
  obtain⟨v,vs',d,ds',p,q,rfl,rfl,rfl,h1,h2⟩:=trodAll_cons h;exact trodAll_cons_mk (Below.trod hl (ht t (by simp)).1 (ht t (by simp)).2 h1 hb (fun x hx=>hlt x (by simp[hx])))
   (JG hl hb ts vs' ds' q (fun t' h'=>ht t' (by simp[h'])) h2 (fun x hx=>hlt x (by simp[hx])))
theorem XE {f:Func} {s:ChangeSpec} {W W':World} {args:Array Value} {ds gs:List (DataW H)} {before:List MemPlace} {T:TypeId}
 (hl:laidOutB P=true) (hts:∀t∈f.params.toList,P.readableRec t=true∧t<P.types.size)
 (hres:f.resultTypes=#[T]) (hT:P.underlying T=some .bool) (hvars:s.vars=[])
 (hW:DataW.Whole enc P f.params.toList s.vars false W args.toList ds gs before)
 (hfn:s.fn H (ds++gs)={results:=[.lit (.bool true)],args:=ds}) (hb:Below W.heap.size W W'):
 s.post enc P f false true false false W args (.bool true) W':=by
 have hlt:=hW.lt;obtain⟨p,q,hA,hV,hps,hfz,hnd⟩:=id hW;rw[hvars]at hV;obtain⟨rfl,rfl⟩:=trodVars_none hV;rw[List.append_nil]at hps;subst hps;refine⟨ds,[],before,[],before,[],hW,?_,?_,?_,hb.frame _,fun h=>by cases h⟩
 ·rw[hfn,hres];exact trodAll_mk1 (shut_bool hT true)
 ·rw[hfn];exact JG hl hb _ _ _ _ hts hA hlt
 ·rw[hvars,hfn]
  rfl
end
open Go.RowKit Go.ChangeShapes Go.WideShapes Go.Deep
theorem Xo{w:World}{a:Addr}{n:Nat}{f:Nat→Value}(h:∀i,i<n→w.cell? (a.add i)=some (f i))(hp:0<n):
 ∃b off,a=⟨b,off,none⟩∧∀j,j<n→w.cell? ⟨b,off+j,none⟩=some (f j):=by
 obtain⟨b,off,spot⟩:=a;have hspot:spot=none:=by simpa[Addr.add]using World.cell?_spot (h 0 hp)
 subst hspot;exact⟨b,off,rfl,fun j hj=>by rw[← Go.WideShapes.add_plain];exact h j hj⟩
theorem Dk:Tryz.prog.cellsOf 3=1:=by kernel_rfl
theorem Qb:Tryz.prog.cellsOf 22=1:=by kernel_rfl
section
variable {H:Type} {enc:TypeId×Value→H} {w:World} {base:Nat}
theorem PV{sp:Nat→Bool}{held:Bool}{fuel:Nat}{cs:List Value}{x:DataW H×List MemPlace}(h:DataW.trod enc Tryz.prog w base sp held fuel 22 cs=some x):
 ∃v l,cs=[v]∧Am w v l∧l.length≤maxLen∧∀x∈l,-9223372036854775808≤x∧x≤9223372036854775807:=by
 rcases open_ints Tryz.underlying22 Tryz.underlying3 Dk h with⟨rfl,-⟩ | ⟨a,len,cap,zs,rfl,_,hlc,hm,hz,-,hc,hwf⟩
 ·exact⟨_,[],rfl,BM w,by simp,by simp⟩
 ·have hsl:len≤zs.length:=by rw[hz];split <;> omega
  have htl:(zs.take len).length=len:=by simp;omega
  refine⟨_,zs.take len,rfl,⟨some a,cap,by rw[htl],?_⟩,by rw[htl];omega,fun x hx=>by have:=hwf x (List.mem_of_mem_take hx);simp[Lit.wf]at this;exact this⟩;intro j hj;rw[htl]at hj;obtain⟨b,off,rfl,hc'⟩:=Xo (n:=len) (f:=fun i=>.int .i64 (zs.getD i 0)) (fun i hi=>hc i (by omega)) (by omega);refine⟨b,off,rfl,?_⟩;rw[hc' j hj];simp[List.getD,hj]
end
open Go.RowKit Go.ChangeShapes Go.WideShapes Go.Deep
open Go.RowKit Go.ChangeShapes Go.WideShapes Go.Deep
theorem VD:Tryz.prog.cellsOf 137=3:=by kernel_rfl
theorem Of:Tryz.prog.cellsOf 48=1:=by kernel_rfl
theorem Wf:Tryz.prog.cellsOf 50=7:=by kernel_rfl
theorem Ts:Tryz.prog.cellsOf 47=1:=by kernel_rfl
theorem SX:Tryz.prog.cellsOf 23=1:=by kernel_rfl
theorem SR:Tryz.prog.cellsOf 25=4:=by kernel_rfl
theorem Tg:Tryz.prog.cellsOf 27=7:=by kernel_rfl
section
variable {H:Type} {enc:TypeId×Value→H} {w:World} {base:Nat} {P:Program} {spare:Nat→Bool} {held:Bool}
theorem Zb{t:TypeId}{f0 f1 f2 f3:Field}{fuel:Nat}{cs:List Value}{x:DataW H×List MemPlace}(ht:P.underlying t=some (.struct #[f0,f1,f2,f3]))(h:DataW.trod enc P w base spare held fuel t cs=some x):
 ∃y0 y1 y2 y3 n,DataW.trod enc P w base spare held n f0.type ((cs.drop f0.offset).take (P.cellsOf f0.type))=some y0∧
  DataW.trod enc P w base spare held n f1.type ((cs.drop f1.offset).take (P.cellsOf f1.type))=some y1∧DataW.trod enc P w base spare held n f2.type ((cs.drop f2.offset).take (P.cellsOf f2.type))=some y2∧
  DataW.trod enc P w base spare held n f3.type ((cs.drop f3.offset).take (P.cellsOf f3.type))=some y3:=by
 obtain⟨xs,n,_,rfl,hl,hlen,hf⟩:=DataW.trod_struct ht h
 match xs,hlen with
 | [y0,y1,y2,y3],_=>exact⟨y0,y1,y2,y3,n,by simpa using hf 0 f0 rfl,by simpa using hf 1 f1 rfl,by simpa using hf 2 f2 rfl,by simpa using hf 3 f3 rfl⟩
theorem dV{t:TypeId}{f0 f1 f2 f3 f4 f5 f6:Field}{fuel:Nat}{cs:List Value}{x:DataW H×List MemPlace}(ht:P.underlying t=some (.struct #[f0,f1,f2,f3,f4,f5,f6]))(h:DataW.trod enc P w base spare held fuel t cs=some x):
 ∃y0 y1 y2 y3 y4 y5 y6 n,DataW.trod enc P w base spare held n f0.type ((cs.drop f0.offset).take (P.cellsOf f0.type))=some y0∧
  DataW.trod enc P w base spare held n f1.type ((cs.drop f1.offset).take (P.cellsOf f1.type))=some y1∧DataW.trod enc P w base spare held n f2.type ((cs.drop f2.offset).take (P.cellsOf f2.type))=some y2∧
  DataW.trod enc P w base spare held n f3.type ((cs.drop f3.offset).take (P.cellsOf f3.type))=some y3∧DataW.trod enc P w base spare held n f4.type ((cs.drop f4.offset).take (P.cellsOf f4.type))=some y4∧
  DataW.trod enc P w base spare held n f5.type ((cs.drop f5.offset).take (P.cellsOf f5.type))=some y5∧DataW.trod enc P w base spare held n f6.type ((cs.drop f6.offset).take (P.cellsOf f6.type))=some y6:=by
 obtain⟨xs,n,_,rfl,hl,hlen,hf⟩:=DataW.trod_struct ht h
 match xs,hlen with
 | [y0,y1,y2,y3,y4,y5,y6],_=>exact⟨y0,y1,y2,y3,y4,y5,y6,n,by simpa using hf 0 f0 rfl,by simpa using hf 1 f1 rfl,by simpa using hf 2 f2 rfl,by simpa using hf 3 f3 rfl,by simpa using hf 4 f4 rfl,by simpa using hf 5 f5 rfl,by simpa using hf 6 f6 rfl⟩
theorem Ub{α:Type}{l:List α}(h:l.length=3):∃a b c,l=[a,b,c]:=by
 match l,h with
 | [a,b,c],_=>exact⟨a,b,c,rfl⟩
theorem WM:Tryz.prog.cellsOf 4=1:=by kernel_rfl
instance:Inhabited NV:=⟨Dc⟩
theorem Pz{α:Type}{l:List α}(h:l.length=7):∃a b c d e f g,l=[a,b,c,d,e,f,g]:=by
 match l,h with
 | [a,b,c,d,e,f,g],_=>exact⟨a,b,c,d,e,f,g,rfl⟩
theorem Sc{held:Bool}{fuel:Nat}{cs:List Value}{x:DataW H×List MemPlace}(h:DataW.trod enc Tryz.prog w base (fun _=>true) held fuel 48 cs=some x):
 ∃v l,cs=[v]∧Ax w v l:=by
 rcases open_slice Tryz.underlying48 h with⟨rfl,-⟩ | ⟨a,len,cap,m,n,D,Pl,rfl,_,hlc,hm,hmm,-,hx⟩
 ·exact⟨_,[],rfl,Eh w⟩
 ·rw[VD]at hx;have hlm:len≤m:=by rw[hmm];split <;> omega
  obtain⟨F,hF⟩:=choose_lt (α:=Ed) (n:=m) (p:=fun i e=>w.cell? (a.add (i*3))=some (.int .i64 e.1)∧w.cell? (a.add (i*3+1))=some (.int .i64 e.2.1)∧w.cell? (a.add (i*3+2))=some (.int .i64 e.2.2)) (fun i hi=>by
   obtain⟨cs',h1,h2⟩:=hx i hi;obtain⟨_,hlen,hcell⟩:=World.cells?_some h1;obtain⟨y0,y1,y2,n',-,hl,g0,g1,g2⟩:=trod_struct3 Tryz.underlying137 h2;clear hl;obtain⟨c0,c1,c2,rfl⟩:=Ub hlen;obtain⟨x0,e0,-⟩:=DataW.trod_int Tryz.underlying3 (by simpa[Dk]using g0);obtain⟨x1,e1,-⟩:=DataW.trod_int Tryz.underlying3 (by simpa[Dk]using g1);obtain⟨x2,e2,-⟩:=DataW.trod_int Tryz.underlying3 (by simpa[Dk]using g2);simp only[List.cons.injEq,and_true]at e0 e1 e2;have q0:=hcell 0 (by omega);have q1:=hcell 1 (by omega);have q2:=hcell 2 (by omega);rw[add_add]at q0 q1 q2;refine⟨(x0,x1,x2),?_,?_,?_⟩
   ·simpa[e0]using q0
   ·simpa[e1]using q1
   ·simpa[e2]using q2)
  have htl:((List.range len).map F).length=len:=by simp
  refine⟨_,(List.range len).map F,rfl,⟨some a,cap,by rw[htl],?_⟩⟩;intro j hj;rw[htl]at hj;obtain⟨b,off,spot⟩:=a;have hspot:spot=none:=by simpa[Addr.add]using World.cell?_spot (hF 0 (by omega)).1
  subst hspot;obtain⟨f0,f1,f2⟩:=hF j (by omega);rw[Go.WideShapes.add_plain]at f0 f1 f2;have e:((List.range len).map F).getD j (0,0,0)=F j:=by simp[List.getD,hj]
  refine⟨b,off,rfl,?_,?_,?_⟩
  ·rw[e];exact f0
  ·rw[e];exact f1
  ·rw[e];exact f2
theorem Zy{held:Bool}{fuel:Nat}{cs:List Value}{x:DataW H×List MemPlace}(h:DataW.trod enc Tryz.prog w base (fun _=>true) held fuel 47 cs=some x):
 ∃v l,cs=[v]∧Ps w v l:=by
 rcases open_slice Tryz.underlying47 h with⟨rfl,-⟩ | ⟨a,len,cap,m,n,D,Pl,rfl,_,hlc,hm,hmm,-,hx⟩
 ·exact⟨_,[],rfl,none,0,rfl,fun j hj=>by simp at hj⟩
 ·rw[Wf]at hx;have hlm:len≤m:=by rw[hmm];split <;> omega
  obtain⟨F,hF⟩:=choose_lt (α:=NV) (n:=m) (p:=fun i x=>∃ea ec fa fc,w.cell? (a.add (i*7))=some (.int .i64 x.op)∧w.cell? (a.add (i*7+1))=some (.int .i64 x.reg)∧w.cell? (a.add (i*7+2))=some (.int .i64 x.loc)∧
 w.cell? (a.add (i*7+3))=some (.slice ea x.e.length ec)∧w.cell? (a.add (i*7+4))=some (.slice fa x.f.length fc)∧w.cell? (a.add (i*7+5))=some (.bool x.ne)∧w.cell? (a.add (i*7+6))=some (.int .i64 x.tgt)∧
 Ax w (.slice ea x.e.length ec) x.e∧Ax w (.slice fa x.f.length fc) x.f) (fun i hi=>by
  obtain⟨cs',h1,h2⟩:=hx i hi;obtain⟨_,hlen,hcell⟩:=World.cells?_some h1;obtain⟨y0,y1,y2,y3,y4,y5,y6,n',g0,g1,g2,g3,g4,g5,g6⟩:=dV Tryz.underlying50 h2;obtain⟨c0,c1,c2,c3,c4,c5,c6,rfl⟩:=Pz hlen;obtain⟨x0,e0,-⟩:=DataW.trod_int Tryz.underlying3 (by simpa[Dk]using g0);obtain⟨x1,e1,-⟩:=DataW.trod_int Tryz.underlying3 (by simpa[Dk]using g1);obtain⟨x2,e2,-⟩:=DataW.trod_int Tryz.underlying3 (by simpa[Dk]using g2);obtain⟨v3,l3,e3,k3⟩:=Sc (by simpa[Of]using g3);obtain⟨v4,l4,e4,k4⟩:=Sc (by simpa[Of]using g4);obtain⟨x5,e5,-⟩:=DataW.trod_bool Tryz.underlying4 (by simpa[WM]using g5);obtain⟨x6,e6,-⟩:=DataW.trod_int Tryz.underlying3 (by simpa[Dk]using g6);simp only[List.cons.injEq,and_true]at e0 e1 e2 e3 e4 e5 e6;have q0:=hcell 0 (by omega);have q1:=hcell 1 (by omega);have q2:=hcell 2 (by omega);have q3:=hcell 3 (by omega);have q4:=hcell 4 (by omega);have q5:=hcell 5 (by omega);have q6:=hcell 6 (by omega);rw[add_add]at q0 q1 q2 q3 q4 q5 q6;obtain⟨ea,ec,hv3,-⟩:=id k3;obtain⟨fa,fc,hv4,-⟩:=id k4;refine⟨⟨x0,x1,x2,l3,l4,x5,x6⟩,ea,ec,fa,fc,?_,?_,?_,?_,?_,?_,?_,?_,?_⟩
  ·simpa[e0]using q0
  ·simpa[e1]using q1
  ·simpa[e2]using q2
  ·simpa[e3,hv3]using q3
  ·simpa[e4,hv4]using q4
  ·simpa[e5]using q5
  ·simpa[e6]using q6
  ·rw[← hv3];exact k3
  ·rw[← hv4];exact k4)
  have htl:((List.range len).map F).length=len:=by simp
  refine⟨_,(List.range len).map F,rfl,some a,cap,by rw[htl],?_⟩;intro j hj;rw[htl]at hj;obtain⟨b,off,spot⟩:=a;obtain⟨ea,ec,fa,fc,f0,f1,f2,f3,f4,f5,f6,f7,f8⟩:=hF j (by omega);have hspot:spot=none:=by
   obtain⟨_,_,_,_,z0,-⟩:=hF 0 (by omega);simpa[Addr.add]using World.cell?_spot z0
  subst hspot;rw[Go.WideShapes.add_plain]at f0 f1 f2 f3 f4 f5 f6;have e:((List.range len).map F).getD j Dc=F j:=by simp[List.getD,hj]
  rw[e];exact⟨b,off,rfl,ea,ec,fa,fc,f0,f1,f2,f3,f4,f5,f6,f7,f8⟩
theorem Xd{held:Bool}{fuel:Nat}{cs:List Value}{x:DataW H×List MemPlace}(h:DataW.trod enc Tryz.prog w base (fun _=>true) held fuel 23 cs=some x):
 ∃v l,cs=[v]∧Lj w v l:=by
 rcases open_slice Tryz.underlying23 h with⟨rfl,-⟩ | ⟨a,len,cap,m,n,D,Pl,rfl,_,hlc,hm,hmm,-,hx⟩
 ·exact⟨_,[],rfl,none,0,rfl,fun j hj=>by simp at hj⟩
 ·rw[Ts]at hx;have hlm:len≤m:=by rw[hmm];split <;> omega
  obtain⟨F,hF⟩:=choose_lt (α:=Value×List NV) (n:=m) (p:=fun i e=>w.cell? (a.add (i*1))=some e.1∧Ps w e.1 e.2) (fun i hi=>by
   obtain⟨cs',h1,h2⟩:=hx i hi;obtain⟨v',l',rfl,hb'⟩:=Zy h2;obtain⟨_,_,hcell⟩:=World.cells?_some h1;have q0:=hcell 0 (by simp);rw[add_add]at q0;exact⟨(v',l'),by simpa using q0,hb'⟩)
  have htl:((List.range len).map (fun i=>(F i).2)).length=len:=by simp
  refine⟨_,(List.range len).map (fun i=>(F i).2),rfl,some a,cap,by rw[htl],?_⟩;intro j hj;rw[htl]at hj;obtain⟨b,off,spot⟩:=a;have hspot:spot=none:=by simpa[Addr.add]using World.cell?_spot (hF 0 (by omega)).1
  subst hspot;obtain⟨f0,f1⟩:=hF j (by omega);rw[Go.WideShapes.add_plain,Nat.mul_one]at f0;have e:((List.range len).map (fun i=>(F i).2)).getD j []=(F j).2:=by simp[List.getD,hj]
  exact⟨b,off,(F j).1,rfl,f0,by rw[e];exact f1⟩
end
section
variable {H:Type} {enc:TypeId×Value→H} {W:World} {r:Reach} {b0 base:Nat}
structure cY(w:World)(v:Value)(u:DG)(model room budget:Int):Prop where
 ex:∃vi vr vc,v=.agg #[.int .i64 u.mod,vi,vr,vc,.int .i64 model,.int .i64 room,.int .i64 budget]∧Ma w (.agg #[.int .i64 u.mod,vi,vr,vc]) u
theorem YN{held:Bool}{v:Value}{d:DataW H}{p:List MemPlace}(hval:Value.okWide Tryz.prog W r b0 27 v)(h:DataW.Trod enc Tryz.prog W base (fun _=>true) held 27 v d p):∃u model room budget,cY W v u model room budget:=by
 obtain⟨cs,rfl,hsz⟩:=okWide_struct Tryz.underlying27 hval;obtain⟨fuel,hf⟩:=h;rw[Tg]at hsz;obtain⟨c0,c1,c2,c3,c4,c5,c6,hcs⟩:=Pz (l:=cs.toList) (by simpa using hsz);obtain rfl:cs=#[c0,c1,c2,c3,c4,c5,c6]:=by cases cs;simp_all
 obtain⟨y0,y1,y2,y3,n',g0,g1,g2,g3⟩:=Zb Tryz.underlying27 hf;obtain⟨z0,z1,z2,z3,n'',k0,k1,k2,k3⟩:=Zb Tryz.underlying25 (cs:=[c0,c1,c2,c3]) (by simpa[SR,Value.cells]using g0);obtain⟨x1,e1,-⟩:=DataW.trod_int Tryz.underlying3 (by simpa[Dk,Value.cells]using g1);obtain⟨x2,e2,-⟩:=DataW.trod_int Tryz.underlying3 (by simpa[Dk,Value.cells]using g2);obtain⟨x3,e3,-⟩:=DataW.trod_int Tryz.underlying3 (by simpa[Dk,Value.cells]using g3);obtain⟨mo,f0,-⟩:=DataW.trod_int Tryz.underlying3 (by simpa[Dk]using k0);obtain⟨v1,l1,f1,i1,-⟩:=PV (by simpa[Qb]using k1);obtain⟨v2,l2,f2,i2,-⟩:=PV (by simpa[Qb]using k2);obtain⟨v3,l3,f3,i3⟩:=Xd (by simpa[SX]using k3);simp only[List.cons.injEq,and_true]at e1 e2 e3 f0 f1 f2 f3;subst e1 e2 e3 f0 f1 f2 f3;exact⟨⟨mo,l1,l2,l3⟩,x1,x2,x3,⟨_,_,_,rfl,_,_,_,rfl,i1,i2,i3⟩⟩
end
def JQ:Cf:=⟨[],[],[],[]⟩
def FJ(w:World)(v:Value)(cs:List Cf):Prop:=∃a cap,v=.slice a cs.length cap∧∀j,j<cs.length→∃b o vp vr vm vb,a=some ⟨b,o,none⟩∧w.cell? ⟨b,o+j*4,none⟩=some vp∧w.cell? ⟨b,o+j*4+1,none⟩=some vr∧w.cell? ⟨b,o+j*4+2,none⟩=some vm∧w.cell? ⟨b,o+j*4+3,none⟩=some vb∧Ll w (.agg #[vp,vr,vm,vb]) (cs.getD j JQ)
theorem FJ.below{w w':World}{v:Value}{cs:List Cf}(h:FJ w v cs)(hb:Below w.heap.size w w'):FJ w' v cs:=
 let ⟨a,c,e,h1⟩:=h
 ⟨a,c,e,fun j hj=>let ⟨b,o,vp,vr,vm,vb,e,h2,h3,h4,h5,h6⟩:=h1 j hj;⟨b,o,vp,vr,vm,vb,e,Af hb h2,Af hb h3,Af hb h4,Af hb h5,h6.below hb⟩⟩
def Fu(cs:List Cf)(c:Cf):Nat→Nat→Int
 | _,0=>-1
 | k,d+1=>if He (cs.getD k JQ) c=true then(k:Int) else Fu cs c (k+1) d
def FZ(cs:List Cf)(c:Cf):Int:=Fu cs c 0 cs.length
theorem Vx{cs:List Cf}{c:Cf}{k d:Nat}(h:He (cs.getD k JQ) c=true):Fu cs c k (d+1)=(k:Int):=by rw[Fu,if_pos h]
theorem TV{cs:List Cf}{c:Cf}{k d:Nat}(h:He (cs.getD k JQ) c=false):Fu cs c k (d+1)=Fu cs c (k+1) d:=by rw[Fu,h];exact if_neg (by simp)
structure gF(c:Cf):Prop where
 pc:c.pc.length≤1000
 mem:c.mem.length≤1000
 regs:c.regs.length≤1000
 buf:c.buf.length≤1000
 rows:∀k,k<c.regs.length→(c.regs.getD k []).length≤1000000
 bufs:∀k,k<c.buf.length→(c.buf.getD k []).length≤1000000
theorem Ur(cv dv v0 v1 v2 v3 v4:Value)(cs:List Cf)(d:Cf)(w:World)(hc:FJ w cv cs)(hd:Ll w dv d)(hl:cs.length≤1000000)(hs:∀c∈cs,gF c):
 Calls Tryz.prog 20 #[.agg #[cv,v0,v1,v2,v3,v4],dv] w fun r w'=>r=.returned (.int .i64 (FZ cs d))∧Below w.heap.size w w':=by
 obtain⟨pa,pac,ra,rac,ma,mac,ba,bac,rfl,-⟩:=hd.var;have HS:=Aa (fun(j:Nat) (hj:j<cs.length)=>hs (cs.getD j JQ) (by simp[List.getD,hj]));obtain⟨ca,cc,rfl,hcs⟩:=hc;have HCS:=Aa hcs;have HD:=Aa hd;have S0:=Aa (OT.start w #[.slice ca cs.length cc,v0,v1,v2,v3,v4] 34 #[.slice pa d.pc.length pac,.slice ra d.regs.length rac,.slice ma d.mem.length mac,.slice ba d.buf.length bac] 62);have HHIT:=Aa (fun(k n:Nat) (h:He (cs.getD k JQ) d=true)=>Vx (d:=n) h);have HNXT:=Aa (fun(k n:Nat) (h:He (cs.getD k JQ) d=false)=>TV (d:=n) h);have HST:Hid (FZ cs d=Fu cs d 0 cs.length):=Aa rfl;have HEN:Hid (∀k,Fu cs d k 0=-1):=Aa (fun k=>by rw[Fu]);clear hs hcs hd;generalize FZ cs d=RES at*;generalize Fu cs d=FK at*;generalize hw2:(w.alloc (.cells #[.slice ca cs.length cc,v0,v1,v2,v3,v4] 34)).alloc (.cells #[.slice pa d.pc.length pac,.slice ra d.regs.length rac,.slice ma d.mem.length mac,.slice ba d.buf.length bac] 62)=w2 at*;go_enter Tryz.func20,Tryz.ntmps20;go_wp2_with fail
 clear hw2;go_loopg [5] cs.length (fun fu q wr=>∃k:Nat,k+fu=cs.length∧q=.int .i64 k∧Hid (RES=FK k fu)∧Hid (Below w2.heap.size w2 wr))
 case atStart=>exact⟨0,by omega,rfl,HST,Aa (Ak _ _)⟩
 case round=>
  obtain⟨k,hk,rfl,HR,HB⟩:=hrel;have S:=Aa (S0.out.more HB.out);have i0:=Ab S.out.blk1 0 _ rfl;obtain⟨j0,j1,j2,j3⟩:=BX S.out.blk2;by_cases hlt:k<cs.length
  ·have z1:(k:Int)<(cs.length:Int):=by omega
   obtain⟨n,rfl⟩:∃n,gk=n+1:=⟨gk - 1,by omega⟩;obtain⟨b1,o1,vp,vr,vm,vb,rfl,x0,x1,x2,x3,hcf⟩:=HCS.out k hlt;have hsl:=HS.out k hlt;obtain⟨x0,x1,x2,x3⟩:=Zf S.out.below x0 x1 x2 x3;have HC:=Aa (fun(s:Bk wr)=>SO _ _ (cs.getD k JQ) d s.1 (hcf.below (S.out.below.trans (s.2.mono S.out.below.size))) (HD.out.below (S.out.below.trans (s.2.mono S.out.below.size))) hsl.pc hsl.mem hsl.regs hsl.buf hsl.rows hsl.bufs);have H1:=Aa (HHIT.out k n);have H2:=Aa (HNXT.out k n);clear HHIT HNXT HST HEN hsl hcf;generalize He (cs.getD k JQ) d=SC at*;have f0:∀s:Bk wr,s.1.cell? ⟨w.heap.size,0,none⟩=some (.slice (some ⟨b1,o1,none⟩) cs.length cc):=fun s=>s.cell i0;have g0:∀s:Bk wr,s.1.cell? ⟨w.heap.size+1,0,none⟩=some (.slice pa d.pc.length pac):=fun s=>s.cell j0;have g1:∀s:Bk wr,s.1.cell? ⟨w.heap.size+1,1,none⟩=some (.slice ra d.regs.length rac):=fun s=>s.cell j1;have g2:∀s:Bk wr,s.1.cell? ⟨w.heap.size+1,2,none⟩=some (.slice ma d.mem.length mac):=fun s=>s.cell j2;have g3:∀s:Bk wr,s.1.cell? ⟨w.heap.size+1,3,none⟩=some (.slice ba d.buf.length bac):=fun s=>s.cell j3;have e0:∀s:Bk wr,s.1.cell? ⟨b1,o1+k*4,none⟩=some vp:=fun s=>s.cell x0;have e1:∀s:Bk wr,s.1.cell? ⟨b1,o1+k*4+1,none⟩=some vr:=fun s=>s.cell x1;have e2:∀s:Bk wr,s.1.cell? ⟨b1,o1+k*4+2,none⟩=some vm:=fun s=>s.cell x2;have e3:∀s:Bk wr,s.1.cell? ⟨b1,o1+k*4+3,none⟩=some vb:=fun s=>s.cell x3;cases SC
   ·have E:=Aa (HR.out.trans (H2.out rfl));clear H1 H2;go_wp2_with fail
    refine AD (by kernel_rfl) (by kernel_rfl) ?_;repeat (go_big_quiet_step ((go_at_call 36;exact Calls.sub_of (HC.out _))))
    refine wpQuiet_nil ?_;intro w4 hb4;have HB4:=Aa (HB.out.trans (hb4.mono HB.out.size));clear hb4;go_wp2_with fail
    go_roundg n
    case measure=>omega
    case rel=>exact⟨k+1,by omega,by simp,E,HB4⟩
   ·have E:=Aa (HR.out.trans (H1.out rfl));clear H1 H2;go_wp2_with fail
    refine AD (by kernel_rfl) (by kernel_rfl) ?_;repeat (go_big_quiet_step ((go_at_call 36;exact Calls.sub_of (HC.out _))))
    refine wpQuiet_nil ?_;intro w4 hb4;have S4:=Aa (S.out.more hb4);clear hb4;go_wp2_with fail
    go_ret;exact⟨by rw[E.out];rfl,S4.out.below⟩
  ·have hkk:k=cs.length:=by omega
   have hgk:gk=0:=by omega
   subst hgk;have E:=Aa (HR.out.trans (HEN.out k));clear HHIT HNXT HST HEN;subst hkk;go_wp2_with fail
   go_ret;exact⟨by rw[E.out];rfl,S.out.below⟩
def Dx(u:DG):Cf:=⟨List.replicate u.regs.length 0,u.regs.map (fun r=>List.replicate r.toNat 0),u.init,List.replicate u.regs.length []⟩
structure LV(w wr:World)(uc:Array Value)(D:Nat)(d0 d1 d2 d3:Value):Prop where
 low:Below w.heap.size w wr
 bu:wr.heap[w.heap.size]?=some (.cells uc 25 (0,0))
 br:wr.heap[w.heap.size+1]?=some (.cells #[.slice none 0 0,.slice none 0 0,.slice none 0 0,.slice none 0 0] 62 (0,0))
 bd:wr.heap[D]?=some (.cells #[d0,d1,d2,d3] 62 (0,0))
 hD:w.heap.size+2≤D
section
variable {w wr w':World} {uc:Array Value} {D:Nat} {d0 d1 d2 d3:Value}
theorem LV.size(h:LV w wr uc D d0 d1 d2 d3):D+1≤wr.heap.size:=(BO.1 h.bd).1
theorem LV.alloc(h:LV w wr uc D d0 d1 d2 d3)(o:Obj):LV w (wr.alloc o) uc D d0 d1 d2 d3:=
 ⟨h.low.trans ((Ae wr o).mono h.low.size),Ah (Ae wr o) h.bu,Ah (Ae wr o) h.br,Ah (Ae wr o) h.bd,h.hD⟩
theorem LV.grown(h:LV w wr uc D d0 d1 d2 d3){r:Option Nat}(hg:wr.grownBy w' r)(hr:∀k,r=some k→D+1≤k):LV w w' uc D d0 d1 d2 d3:=by
 have hs:=h.size;have hD:=h.hD;refine⟨h.low.grown hg h.low.size (fun k hk=>by have:=hr k hk;omega),?_,?_,?_,hD⟩
 ·rw[hg.block _ (by omega) (fun e=>by have:=hr _ e.symm;omega)];exact h.bu
 ·rw[hg.block _ (by omega) (fun e=>by have:=hr _ e.symm;omega)];exact h.br
 ·rw[hg.block _ (by omega) (fun e=>by have:=hr _ e.symm;omega)];exact h.bd
theorem LV.more(h:LV w wr uc D d0 d1 d2 d3)(hb:Below wr.heap.size wr w'):LV w w' uc D d0 d1 d2 d3:=⟨h.low.trans (hb.mono h.low.size),Ah hb h.bu,Ah hb h.br,Ah hb h.bd,h.hD⟩
theorem LV.put0(h:LV w wr uc D d0 d1 d2 d3)(v:Value):LV w (wr.setCell ⟨D,0,none⟩ v) uc D v d1 d2 d3:=
 ⟨h.low.setCell (p:=⟨D,0,none⟩) (by have:=h.hD;show w.heap.size≤D;omega) v,by rw[Au (by have:=h.hD;omega)];exact h.bu,by rw[Au (by have:=h.hD;omega)];exact h.br,Ac h.bd 0 v,h.hD⟩
theorem LV.put1(h:LV w wr uc D d0 d1 d2 d3)(v:Value):LV w (wr.setCell ⟨D,1,none⟩ v) uc D d0 v d2 d3:=
 ⟨h.low.setCell (p:=⟨D,1,none⟩) (by have:=h.hD;show w.heap.size≤D;omega) v,by rw[Au (by have:=h.hD;omega)];exact h.bu,by rw[Au (by have:=h.hD;omega)];exact h.br,Ac h.bd 1 v,h.hD⟩
theorem LV.put2(h:LV w wr uc D d0 d1 d2 d3)(v:Value):LV w (wr.setCell ⟨D,2,none⟩ v) uc D d0 d1 v d3:=
 ⟨h.low.setCell (p:=⟨D,2,none⟩) (by have:=h.hD;show w.heap.size≤D;omega) v,by rw[Au (by have:=h.hD;omega)];exact h.bu,by rw[Au (by have:=h.hD;omega)];exact h.br,Ac h.bd 2 v,h.hD⟩
theorem LV.put3(h:LV w wr uc D d0 d1 d2 d3)(v:Value):LV w (wr.setCell ⟨D,3,none⟩ v) uc D d0 d1 d2 v:=
 ⟨h.low.setCell (p:=⟨D,3,none⟩) (by have:=h.hD;show w.heap.size≤D;omega) v,by rw[Au (by have:=h.hD;omega)];exact h.bu,by rw[Au (by have:=h.hD;omega)];exact h.br,Ac h.bd 3 v,h.hD⟩
end
theorem Xb{u:DG}(hR:Bi u=true):CN u 0 (Dx u):=by
 obtain⟨⟨hm1,hm2⟩,hin,-,⟨hr1,hr4⟩,hcl,hrow⟩:=Bz.1 hR;have hreg:∀t,t<u.regs.length→(Dx u).regs.getD t []=List.replicate (u.regs.getD t 0).toNat 0:=fun t ht=>by
  simp[Dx,List.getD,ht]
 refine⟨by simp[Dx],by simp[Dx],by simp[Dx],rfl,fun t ht=>?_,fun t ht=>?_,fun t ht=>?_,hin,fun t ht=>?_,fun t ht y hy=>?_⟩
 ·obtain⟨-,⟨h1,-⟩,-⟩:=CU.1 (hrow t ht);have:(Dx u).pc.getD t 0=0:=by simp[Dx,List.getD,ht]
  rw[this];omega
 ·obtain⟨⟨h1,-⟩,-⟩:=CU.1 (hrow t ht);rw[hreg t ht,List.length_replicate];omega
 ·rw[hreg t ht];refine DQ.2 fun y hy=>?_;rw[(List.mem_replicate.1 hy).2];omega
 ·have:(Dx u).buf.getD t []=[]:=by simp[Dx,List.getD,ht]
  rw[this];simp
 ·have:(Dx u).buf.getD t []=[]:=by simp[Dx,List.getD,ht]
  rw[this]at hy;cases hy
abbrev KD:Value:=.slice none 0 0
theorem LB(v:Value):AP v KD:=fun q h1 h2=>by cases h2
structure MN(base:Nat)(w:World)(vp vr vb:Value)(p:List Int)(rg:List (List Int))(rv:List Value)(nb:Nat):Prop where
 pc:AW base w vp p
 regs:Di base w vr rg rv
 buf:w.ownsRow base 102 1 vb nb (List.replicate nb KD)
 apart:(vp::vr::vb::rv).Pairwise AP
section
variable {base:Nat} {w w':World} {vp vr vb:Value} {p:List Int} {rg:List (List Int)} {rv:List Value} {nb:Nat}
theorem MN.nil(base:Nat)(w:World):MN base w KD KD KD [] [] [] 0:=
 ⟨CO _ _ _ _,⟨rfl,CO _ _ _ _,fun j hj=>by simp at hj⟩,CO _ _ _ _,BG.2 ⟨fun x hx=>(by simp at hx;subst hx;exact LB _),BG.2 ⟨fun x hx=>(by simp at hx;subst hx;exact LB _),List.pairwise_singleton _ _⟩⟩⟩
theorem MN.more(h:MN base w vp vr vb p rg rv nb)(hb:Below w.heap.size w w'):MN base w' vp vr vb p rg rv nb:=
 ⟨h.pc.more hb,⟨h.regs.len,Nk h.regs.out hb,fun j hj=>(h.regs.inn j hj).more hb⟩,Nk h.buf hb,h.apart⟩
theorem MN.setlow(h:MN base w vp vr vb p rg rv nb){b i:Nat}(hb:b<base)(x:Value):MN base (w.setCell ⟨b,i,none⟩ x) vp vr vb p rg rv nb:=
 ⟨h.pc.setlow hb x,h.regs.setlow hb x,Fh h.buf hb x,h.apart⟩
theorem MN.lts(h:MN base w vp vr vb p rg rv nb):∀x∈vp::vr::vb::rv,∀q,x.ownBlock=some q→q<w.heap.size:=fun x hx q e=>by
 simp only[Br]at hx;rcases hx with rfl | rfl | rfl | hx
 ·exact(World.ownsRow.lt h.pc q e).2
 ·exact(World.ownsRow.lt h.regs.out q e).2
 ·exact(World.ownsRow.lt h.buf q e).2
 ·exact h.regs.lts x hx q e
theorem fG{v u:Value}{e:TypeId}{size n:Nat}{xs:List Value}{o:Obj}(h:w.ownsRow base e size v n xs)(hg:(w.alloc o).grownBy w' u.ownBlock)(ha:AP v u):w'.ownsRow base e size v n xs:=
 World.ownsRow.kept (World.ownsRow.alloc h o) hg (by
  cases hv:v.ownBlock with
  | none=>exact .inl rfl
  | some q=>exact .inr (fun e=>ha q hv e.symm))
theorem MN.pushP(h:MN base w vp vr vb p rg rv nb){o:Obj}{v':Value}{x:Int}(hg:(w.alloc o).grownBy w' vp.ownBlock)(hown:w'.ownsRow base 3 1 v' (p.length+1) (p.map (Value.int .i64)++[.int .i64 x]))(hor:∀q,v'.ownBlock=some q→vp.ownBlock=some q∨w.heap.size≤q):MN base w' v' vr vb (p++[x]) rg rv nb:=by
 obtain⟨p1,p2⟩:=BG.1 h.apart;refine⟨?_,h.regs.kept2 hg (p1 vr (by simp)).symm (fun y hy=>(p1 y (by simp[hy])).symm),fG h.buf hg (p1 vb (by simp)).symm,?_⟩
 ·unfold AW;rw[Bs,Ec];exact hown
 ·exact FI (V:=[]) (U:=vr::vb::rv) (N:=w.heap.size) h.apart (fun y hy=>h.lts y (by simp only[List.nil_append]at hy;exact List.mem_cons_of_mem _ hy)) hor
theorem MN.pushB(h:MN base w vp vr vb p rg rv nb){o:Obj}{v':Value}(hg:(w.alloc o).grownBy w' vb.ownBlock)(hown:w'.ownsRow base 102 1 v' (nb+1) (List.replicate nb KD++[KD]))(hor:∀q,v'.ownBlock=some q→vb.ownBlock=some q∨w.heap.size≤q):MN base w' vp vr v' p rg rv (nb+1):=by
 obtain⟨p1,p2⟩:=BG.1 h.apart;obtain⟨p3,p4⟩:=BG.1 p2;obtain⟨p5,p6⟩:=BG.1 p4;refine⟨h.pc.kept2 hg (p1 vb (by simp)),h.regs.kept2 hg (p3 vb (by simp)) (fun y hy=>(p5 y hy).symm),?_,?_⟩
 ·rw[List.replicate_succ',];exact hown
 ·exact FI (V:=[vp,vr]) (U:=rv) (N:=w.heap.size) h.apart (fun y hy=>h.lts y (by simp only[CJ,Br,List.not_mem_nil,or_false]at hy;simp only[Br];rcases hy with(e | e) | e;exact .inl e;exact .inr (.inl e);exact .inr (.inr (.inr e)))) hor
theorem Fl{v u:Value}{e:TypeId}{size n:Nat}{xs:List Value}(h:w.ownsRow base e size v n xs)(hg:w.grownBy w' u.ownBlock)(ha:AP v u):w'.ownsRow base e size v n xs:=
 World.ownsRow.kept h hg (by
  cases hv:v.ownBlock with
  | none=>exact .inl rfl
  | some q=>exact .inr (fun e=>ha q hv e.symm))
theorem MN.pushR(h:MN base w vp vr vb p rg rv nb){N:Nat}(hN:∀x∈vp::vr::vb::rv,∀q,x.ownBlock=some q→q<N){r v':Value}{row:List Int}(hr:AW base w r row)(hrN:∀q,r.ownBlock=some q→N≤q)(hg:w.grownBy w' vr.ownBlock)(hown:w'.ownsRow base 22 1 v' (rg.length+1) (rv++[r]))(hor:∀q,v'.ownBlock=some q→vr.ownBlock=some q∨w.heap.size≤q):MN base w' vp v' vb p (rg++[row]) (rv++[r]) nb:=by
 obtain⟨p1,p2⟩:=BG.1 h.apart;obtain⟨p3,p4⟩:=BG.1 p2;have hrv:AP r vr:=(AP.fresh (hN vr (by simp)) hrN).symm;have hl:=h.regs.len;refine⟨Fl h.pc hg (p1 vr (by simp)),⟨by simp[hl],by rw[Bs];exact hown,fun j hj=>?_⟩,Fl h.buf hg (p3 vb (by simp)).symm,?_⟩
 ·rw[Bs,List.length_singleton]at hj;by_cases e:j<rg.length
  ·rw[AM,List.getElem?_append_left (by omega),← AM,AM (l:=rg++[row]),List.getElem?_append_left e,← AM];exact Fl (h.regs.inn j e) hg (p3 _ (List.mem_cons_of_mem _ (by simp[List.getD,show j<rv.length by omega]))).symm
  ·obtain rfl:j=rg.length:=by omega
   rw[AM,List.getElem?_append_right (by omega),AM (l:=rg++[row]),List.getElem?_append_right (AQ _)];simp only[hl,Nat.sub_self];exact Fl hr hg hrv
 ·have PN:=Oj (V:=vp::vr::vb::rv) (U:=[]) (v:=r) (N:=N) (by rw[List.append_nil];exact h.apart) (fun x hx=>hN x (by rw[List.append_nil]at hx;exact hx)) hrN;refine FI (V:=[vp]) (U:=vb::(rv++[r])) (v:=vr) (N:=w.heap.size) PN (fun x hx q e=>?_) hor;simp only[CJ,Br,List.not_mem_nil,or_false]at hx;rcases hx with rfl | rfl | hx | rfl
  ·exact h.lts _ (by simp) q e
  ·exact h.lts _ (by simp) q e
  ·exact h.lts x (by simp[hx]) q e
  ·exact(World.ownsRow.lt hr q e).2
theorem MN.conf(h:MN base w vp vr vb p rg rv nb)(hg:w.grownBy w' none){vm:Value}{m:List Int}(hm:AW base w' vm m)(hmN:∀q,vm.ownBlock=some q→w.heap.size≤q):BB base w' vp vr vm vb rv (List.replicate nb KD) ⟨p,rg,m,List.replicate nb []⟩:=by
 refine⟨h.pc.kept0 hg,h.regs.kept0 hg,hm,⟨by simp,by rw[List.length_replicate];exact World.ownsRow.kept h.buf hg (Hc _),fun j hj=>?_⟩,?_⟩
 ·rw[List.length_replicate]at hj;have e1:(List.replicate nb KD).getD j undef=KD:=by simp[List.getD,hj]
  have e2:(List.replicate nb ([]:List En)).getD j []=[]:=by simp[List.getD,hj]
  show Cb base w' ((List.replicate nb KD).getD j undef) ((List.replicate nb ([]:List En)).getD j []);rw[e1,e2];exact CO _ _ _ _
 ·have P1:=Oj (V:=[vp,vr]) (U:=vb::rv) (v:=vm) (N:=w.heap.size) h.apart (fun x hx=>h.lts x (by simpa using hx)) hmN;have e:vp::vr::vm::vb::(rv++List.replicate nb KD)=([vp,vr]++vm::(vb::rv))++List.replicate nb KD:=by simp
  rw[e,List.pairwise_append];exact⟨P1,List.pairwise_replicate.2 (.inr (LB _)),fun x _ y hy=>by rw[(List.mem_replicate.1 hy).2];exact LB _⟩
end
theorem Xy{base g n:Nat}{w:World}(hb:base≤g)(hg:w.heap[g]?=some (.cells (madeCells #[.int .i64 0] n) 3 (0,0)))(hn:n≤1000):AW base w (.slice (some ⟨g,0,none⟩) n n) (List.replicate n 0):=by
 rw[dA]at hg;refine⟨by simp,.inr ⟨g,n,_,by simp,hb,hg,by simp,by unfold maxLen;omega,?_,?_⟩⟩
 ·simp[ints,BV]
 ·simp only[ints,BV,List.map_map,List.map_replicate,Nat.mul_one,List.toList_toArray];rw[List.take_of_length_le (by simp)];exact List.ext_getElem (by simp) (fun i h1 h2=>by simp)
theorem Cw{v:Value}{g N M n cap:Nat}(h:v.ownBlock=some g∨g=M)(hM:N≤M):∀q,(Value.slice (some ⟨g,0,none⟩) n cap).ownBlock=some q→v.ownBlock=some q∨N≤q:=fun q e=>by
 obtain rfl:g=q:=by simpa[Value.ownBlock]using e
 rcases h with e | e
 ·exact .inl e
 ·exact .inr (by omega)
def Gs(w0:World)(n:Nat)(vs:List Value)(j:Nat)(v:Value)(w:World):Prop:=
 if j=7 then∃g,v=.slice (some ⟨g,0,none⟩) n n∧AW w0.heap.size w v (List.replicate n 0)
 else if j=8 then∃g b,v=.slice (some ⟨b,0,none⟩) 1 1∧w.heap[b]?=some (.cells #[.slice (some ⟨g,0,none⟩) n n] 22 (0,0))∧AW w0.heap.size w (.slice (some ⟨g,0,none⟩) n n) (List.replicate n 0)
 else v=vs.getD j undef
theorem QR{w0:World}{n:Nat}{vs:List Value}{j:Nat}{v:Value}{w w':World}(hb:Below w.heap.size w w')(h:Gs w0 n vs j v w):Gs w0 n vs j v w':=by
 unfold Gs at h ⊢;split
 ·rename_i e;rw[if_pos e]at h;obtain⟨g,e2,h⟩:=h;exact⟨g,e2,h.more hb⟩
 ·rename_i e;rw[if_neg e]at h;split
  ·rename_i e3;rw[if_pos e3]at h;obtain⟨g,b,e2,h,h2⟩:=h;exact⟨g,b,e2,Ah hb h,h2.more hb⟩
  ·rename_i e3;rw[if_neg e3]at h;exact h
theorem VL{w wr:World}{uc:Array Value}{D:Nat}{v0 v1 v2 v3:Value}{rv bv:List Value}{c:Cf}(m:LV w wr uc D v0 v1 v2 v3)(o:BB (D+1) wr v0 v1 v2 v3 rv bv c):
 BB w.heap.size ((((wr.setCell ⟨w.heap.size+1,0,none⟩ v0).setCell ⟨w.heap.size+1,1,none⟩ v1).setCell ⟨w.heap.size+1,2,none⟩ v2).setCell ⟨w.heap.size+1,3,none⟩ v3) v0 v1 v2 v3 rv bv c∧
 Below w.heap.size w ((((wr.setCell ⟨w.heap.size+1,0,none⟩ v0).setCell ⟨w.heap.size+1,1,none⟩ v1).setCell ⟨w.heap.size+1,2,none⟩ v2).setCell ⟨w.heap.size+1,3,none⟩ v3)∧
 ((((wr.setCell ⟨w.heap.size+1,0,none⟩ v0).setCell ⟨w.heap.size+1,1,none⟩ v1).setCell ⟨w.heap.size+1,2,none⟩ v2).setCell ⟨w.heap.size+1,3,none⟩ v3).cell? ⟨w.heap.size+1,0,none⟩=some v0∧
 ((((wr.setCell ⟨w.heap.size+1,0,none⟩ v0).setCell ⟨w.heap.size+1,1,none⟩ v1).setCell ⟨w.heap.size+1,2,none⟩ v2).setCell ⟨w.heap.size+1,3,none⟩ v3).cell? ⟨w.heap.size+1,1,none⟩=some v1∧
 ((((wr.setCell ⟨w.heap.size+1,0,none⟩ v0).setCell ⟨w.heap.size+1,1,none⟩ v1).setCell ⟨w.heap.size+1,2,none⟩ v2).setCell ⟨w.heap.size+1,3,none⟩ v3).cell? ⟨w.heap.size+1,2,none⟩=some v2∧
 ((((wr.setCell ⟨w.heap.size+1,0,none⟩ v0).setCell ⟨w.heap.size+1,1,none⟩ v1).setCell ⟨w.heap.size+1,2,none⟩ v2).setCell ⟨w.heap.size+1,3,none⟩ v3).cell? ⟨w.heap.size+1,3,none⟩=some v3:=by
 have hD:=m.hD;have hB:w.heap.size+1<D+1:=by omega
 have hW:w.heap.size≤w.heap.size+1:=by omega
 have OF:=((((o.setlow (i:=0) hB v0).setlow (i:=1) hB v1).setlow (i:=2) hB v2).setlow (i:=3) hB v3).low (show w.heap.size≤D+1 by omega);have kb:=Ac (i:=3) (v:=v3) (Ac (i:=2) (v:=v2) (Ac (i:=1) (v:=v1) (Ac (i:=0) (v:=v0) m.br)));have BF:=(((m.low.setCell (p:=⟨w.heap.size+1,0,none⟩) hW v0).setCell (p:=⟨w.heap.size+1,1,none⟩) hW v1).setCell (p:=⟨w.heap.size+1,2,none⟩) hW v2).setCell (p:=⟨w.heap.size+1,3,none⟩) hW v3;exact⟨OF,BF,Ab kb 0 v0 rfl,Ab kb 1 v1 rfl,Ab kb 2 v2 rfl,Ab kb 3 v3 rfl⟩
theorem XC{w0 w':World}{n:Nat}{vs:List Value}(h:w0.heap.size≤w'.heap.size)(hn:n≤1000):Gs w0 n vs 7 (.slice (some ⟨w'.heap.size,0,none⟩) n n) (w'.alloc (.cells (madeCells #[.int .i64 0] n) 3)):=by
 unfold Gs;rw[if_pos rfl];exact⟨_,rfl,Xy h (Ar w' _) hn⟩
theorem Yc{w0 w':World}{n g:Nat}{vs:List Value}(h:AW w0.heap.size w' (.slice (some ⟨g,0,none⟩) n n) (List.replicate n 0)):Gs w0 n vs 8 (.slice (some ⟨w'.heap.size,0,none⟩) 1 1) (w'.alloc (.cells #[.slice (some ⟨g,0,none⟩) n n] 22)):=by
 unfold Gs;rw[if_neg (by decide),if_pos rfl];exact⟨g,_,rfl,Ar w' _,h.more (Ae w' _)⟩
structure Sp where
 confs:List Cf
 par:List Int
 ag:List Int
 ed:List Ed
section
variable (u:DG) (model room budget:Int)
def Iu(s:Sp)(i:Nat)(a:Int):Cf:=Pc u (s.confs.getD i JQ) model a.toNat
def MT(i:Nat)(s:Sp)(a:Int):Option Sp:=
 if FZ s.confs (Iu u model s i a)<0 then
  (if budget≤(s.confs.length:Int) then none else some ⟨s.confs++[Iu u model s i a],s.par++[(i:Int)],s.ag++[a],s.ed++[((i:Int),a,(s.confs.length:Int))]⟩)
 else some {s with ed:=s.ed++[((i:Int),a,FZ s.confs (Iu u model s i a))]}
def OV(i:Nat):List Int→Sp→Option Sp
 | [],s=>some s
 | a::l,s=>(MT u model budget i s a).bind (OV i l)
def DT(s:Sp)(i:Nat):List Int:=VF u (s.confs.getD i JQ) model room
def Mq:Nat→Nat→Sp→Option Sp
 | 0,_,s=>some s
 | f+1,i,s=>if i<s.confs.length then(OV u model budget i (DT u model room s i) s).bind (Mq f (i+1)) else some s
def GD:Sp:=⟨[Dx u],[-1],[-1],[]⟩
def WI:Option Sp:=Mq u model room budget (budget.toNat+1) 0 (GD u)
def Et(s:Sp)(i:Nat):List (Int×Int):=(List.range i).flatMap (fun j=>(DT u model room s j).map (fun a=>((j:Int),a)))
structure KO(i k:Nat)(s:Sp):Prop where
 lenP:s.par.length=s.confs.length
 lenA:s.ag.length=s.confs.length
 pos:0<s.confs.length
 le:(s.confs.length:Int)≤budget
 ok:∀j,j<s.confs.length→CN u j (s.confs.getD j JQ)
 row:i≤s.confs.length
 edm:s.ed.map (fun e=>(e.1,e.2.1))=Et u model room s i++((DT u model room s i).take k).map (fun a=>((i:Int),a))
 edt:∀e∈s.ed,0≤e.2.2∧e.2.2<(s.confs.length:Int)
 par0:s.par.getD 0 0=-1
 parE:∀j,1≤j→j<s.confs.length→∃e∈s.ed,e.2.2=(j:Int)∧e.1=s.par.getD j 0∧e.2.1=s.ag.getD j 0
 parI:∀j,1≤j→j<s.confs.length→0≤s.par.getD j 0∧s.par.getD j 0<(j:Int)∧s.par.getD j 0≤(i:Int)
 parM:∀j j',1≤j→j≤j'→j'<s.confs.length→s.par.getD j 0≤s.par.getD j' 0
 first:∀e∈s.ed,1≤e.2.2→s.par.getD e.2.2.toNat 0≤e.1
end
theorem Rd(cs:List Cf)(c:Cf):∀(d k:Nat),k+d≤cs.length→Fu cs c k d=-1∨(0≤Fu cs c k d∧Fu cs c k d<(cs.length:Int))
 | 0,k,_=>.inl (by rw[Fu])
 | d+1,k,h=>by
  rw[Fu];split
  ·exact .inr ⟨by omega,by omega⟩
  ·exact Rd cs c d (k+1) (by omega)
theorem Ri(cs:List Cf)(c:Cf):FZ cs c=-1∨(0≤FZ cs c∧FZ cs c<(cs.length:Int)):=Rd cs c cs.length 0 (by omega)
theorem BR{α:Type}{l r:List α}{j:Nat}{d:α}(h:j<l.length):(l++r).getD j d=l.getD j d:=by
 rw[AM,List.getElem?_append_left h,← AM]
theorem Hy{α:Type}{l:List α}{x d:α}:(l++[x]).getD l.length d=x:=by
 rw[AM,List.getElem?_append_right (AQ _)];simp
theorem Dd{α:Type}{l:List α}{x d:α}{n:Nat}(h:l.length=n):(l++[x]).getD n d=x:=by subst h;exact Hy
theorem Oi{α:Type}{l:List α}{k:Nat}{d:α}(h:k<l.length):l.take (k+1)=l.take k++[l.getD k d]:=by
 rw[List.take_add_one,Bf h,AM,Bf h];rfl
section
variable {u:DG} {model room budget:Int}
theorem Ko{s s':Sp}{x:List Cf}(h:s'.confs=s.confs++x){j:Nat}(hj:j<s.confs.length):DT u model room s' j=DT u model room s j:=by
 unfold DT;rw[h,BR hj]
theorem Xh{s s':Sp}{x:List Cf}(h:s'.confs=s.confs++x){i:Nat}(hi:i≤s.confs.length):Et u model room s' i=Et u model room s i:=by
 unfold Et;rw[List.flatMap_def,List.flatMap_def]
 congr 1
 refine List.map_congr_left fun j hj=>?_;rw[Ko h (by have:=Cg.1 hj;omega)]
theorem KO.step(hR:Bi u=true){i k:Nat}{s s':Sp}(h:KO u model room budget i k s)(hi:i<s.confs.length)(hk:k<(DT u model room s i).length)(hs:MT u model budget i s ((DT u model room s i).getD k 0)=some s'):KO u model room budget i (k+1) s'∧∃x,s'.confs=s.confs++x:=by
 have ha:(DT u model room s i).getD k 0∈DT u model room s i:=by simp[List.getD,hk]
 have htk:((DT u model room s i).take (k+1)).map (fun a=>((i:Int),a))=((DT u model room s i).take k).map (fun a=>((i:Int),a))++[((i:Int),(DT u model room s i).getD k 0)]:=by
  rw[Oi hk,Ec];rfl
 generalize (DT u model room s i).getD k 0=a at*;obtain⟨n,hn,hag,hen⟩:=Fj.1 ha;have hok:CN u (i+1) (Iu u model s i a):=by
  unfold Iu;rw[hn,BT];exact Ux hR (h.ok i hi) hag hen
 unfold MT at hs;split at hs
 ·split at hs
  ·cases hs
  ·rename_i hb;cases hs;have hpl:=h.lenP;have hal:=h.lenA;have hpos:=h.pos;refine⟨⟨by simp[hpl],by simp[hal],by simp,by simp only[Bs,List.length_singleton];omega,fun j hj=>?_,by simp;omega,?_,fun e he=>?_,?_,fun j h1 hj=>?_,fun j h1 hj=>?_,fun j j' h1 h2 hj=>?_,fun e he h1=>?_⟩,[_],rfl⟩
   ·simp only[Bs,List.length_singleton]at hj;by_cases e:j<s.confs.length
    ·show CN u j ((s.confs++_).getD j JQ);rw[BR e];exact h.ok j e
    ·obtain rfl:j=s.confs.length:=by omega
     show CN u _ ((s.confs++_).getD s.confs.length JQ);rw[Hy];exact hok.more (by omega)
   ·rw[Xh (s:=s) rfl (by omega),Ko (s:=s) rfl hi,htk];show(s.ed++[_]).map _=_;rw[Ec,h.edm,List.append_assoc]
    rfl
   ·simp only[CJ,Ds]at he;simp only[Bs,List.length_singleton];rcases he with he | rfl
    ·have:=h.edt e he;omega
    ·show 0≤(s.confs.length:Int)∧(s.confs.length:Int)<((s.confs.length+1:Nat):Int);omega
   ·show(s.par++_).getD 0 0=-1;rw[BR (by omega)];exact h.par0
   ·simp only[Bs,List.length_singleton]at hj;by_cases e:j<s.confs.length
    ·obtain⟨x,hx,e1,e2,e3⟩:=h.parE j h1 e;refine⟨x,List.mem_append_left _ hx,e1,?_,?_⟩
     ·show x.1=(s.par++_).getD j 0;rw[BR (by omega)];exact e2
     ·show x.2.1=(s.ag++_).getD j 0;rw[BR (by omega)];exact e3
    ·obtain rfl:j=s.confs.length:=by omega
     refine⟨_,List.mem_append_right _ (Ds.2 rfl),rfl,?_,?_⟩
     ·show(i:Int)=(s.par++[(i:Int)]).getD s.confs.length 0;rw[Dd hpl]
     ·show a=(s.ag++[a]).getD s.confs.length 0;rw[Dd hal]
   ·simp only[Bs,List.length_singleton]at hj;show 0≤(s.par++[(i:Int)]).getD j 0∧(s.par++[(i:Int)]).getD j 0<(j:Int)∧(s.par++[(i:Int)]).getD j 0≤(i:Int);by_cases e:j<s.confs.length
    ·rw[BR (by omega)];exact h.parI j h1 e
    ·obtain rfl:j=s.confs.length:=by omega
     rw[Dd hpl];omega
   ·simp only[Bs,List.length_singleton]at hj;show(s.par++[(i:Int)]).getD j 0≤(s.par++[(i:Int)]).getD j' 0;by_cases e:j'<s.confs.length
    ·rw[BR (by omega),BR (by omega)];exact h.parM j j' h1 h2 e
    ·obtain rfl:j'=s.confs.length:=by omega
     rw[Dd hpl];by_cases e2:j<s.confs.length
     ·rw[BR (by omega)];exact(h.parI j h1 e2).2.2
     ·obtain rfl:j=s.confs.length:=by omega
      rw[Dd hpl];omega
   ·simp only[CJ,Ds]at he;rcases he with he | rfl
    ·have:=h.edt e he;show(s.par++[(i:Int)]).getD e.2.2.toNat 0≤e.1;rw[BR (by omega)];exact h.first e he h1
    ·show(s.par++[(i:Int)]).getD (Int.toNat (s.confs.length:Int)) 0≤(i:Int);rw[BT,Dd hpl];omega
 ·rename_i hf;cases hs;have hfi:=Ri s.confs (Iu u model s i a);refine⟨⟨h.lenP,h.lenA,h.pos,h.le,h.ok,h.row,?_,fun e he=>?_,h.par0,fun j h1 hj=>?_,h.parI,h.parM,fun e he h1=>?_⟩,[],by simp⟩
  ·show(s.ed++[_]).map _=Et u model room s i++((DT u model room s i).take (k+1)).map (fun a=>((i:Int),a));rw[htk,Ec,h.edm,List.append_assoc]
   rfl
  ·simp only[CJ,Ds]at he;rcases he with he | rfl
   ·exact h.edt e he
   ·show 0≤FZ s.confs (Iu u model s i a)∧FZ s.confs (Iu u model s i a)<_;exact⟨by omega,by show _<(s.confs.length:Int);omega⟩
  ·obtain⟨x,hx,e1⟩:=h.parE j h1 hj;exact⟨x,List.mem_append_left _ hx,e1⟩
  ·simp only[CJ,Ds]at he;rcases he with he | rfl
   ·exact h.first e he h1
   ·show s.par.getD (FZ s.confs (Iu u model s i a)).toNat 0≤(i:Int);exact(h.parI _ (by have:1≤FZ s.confs (Iu u model s i a):=h1;omega) (by omega)).2.2
theorem KO.next{i:Nat}{s:Sp}(h:KO u model room budget i (DT u model room s i).length s)(hi:i<s.confs.length):KO u model room budget (i+1) 0 s:=by
 refine {h with row:=by omega,edm:=?_,parI:=fun j h1 hj=>by have:=h.parI j h1 hj;omega};rw[h.edm,Ez,List.take_zero,List.map_nil,List.append_nil];unfold Et;rw[List.range_succ,List.flatMap_append];simp
theorem KO.start(hR:Bi u=true)(hb:1≤budget):KO u model room budget 0 0 (GD u):=by
 refine⟨rfl,rfl,Nat.zero_lt_one,hb,fun j hj=>?_,by omega,?_,fun e he=>(by cases he),rfl,fun j h1 hj=>?_,fun j h1 hj=>?_,fun j j' h1 h2 hj=>?_,fun e he=>(by cases he)⟩
 ·obtain rfl:j=0:=by simp[GD]at hj;omega
  exact Xb hR
 ·simp[GD,Et]
 ·simp[GD]at hj;omega
 ·simp[GD]at hj;omega
 ·simp[GD]at hj;omega
theorem KO.rows(hR:Bi u=true){i:Nat}:∀{d k:Nat} {s s':Sp},k+d=(DT u model room s i).length→i<s.confs.length→KO u model room budget i k s→OV u model budget i ((DT u model room s i).drop k) s=some s'→KO u model room budget (i+1) 0 s'
 | 0,k,s,s',hk,hi,h,hs=>by
  rw[List.drop_of_length_le (by omega),OV]at hs;cases hs;have:k=(DT u model room s i).length:=by omega
  subst this;exact h.next hi
 | d+1,k,s,s',hk,hi,h,hs=>by
  have hlt:k<(DT u model room s i).length:=by omega
  have hd:(DT u model room s i).drop k=(DT u model room s i).getD k 0::(DT u model room s i).drop (k+1):=by
   rw[List.drop_eq_getElem_cons hlt,AM,Bf hlt];rfl
  rw[hd,OV]at hs;obtain⟨s1,e1,e2⟩:=Option.bind_eq_some_iff.1 hs;obtain⟨h1,x,hx⟩:=h.step hR hi hlt e1;have hm:DT u model room s1 i=DT u model room s i:=Ko hx hi;rw[← hm]at e2 hk;exact KO.rows hR (d:=d) (k:=k+1) (by omega) (by rw[hx,Bs];omega) h1 e2
theorem KO.all(hR:Bi u=true):∀{f i:Nat} {s s':Sp},budget.toNat+1≤f+i→KO u model room budget i 0 s→Mq u model room budget f i s=some s'→KO u model room budget s'.confs.length 0 s'
 | 0,i,s,s',hf,h,hs=>by
  have h1:=h.row;have h2:=h.le;omega
 | f+1,i,s,s',hf,h,hs=>by
  rw[Mq]at hs;split at hs
  ·rename_i hi;obtain⟨s1,e1,e2⟩:=Option.bind_eq_some_iff.1 hs;have h1:=KO.rows hR (d:=(DT u model room s i).length) (k:=0) (by omega) hi h (by rw[List.drop_zero];exact e1);exact KO.all hR (by omega) h1 e2
  ·rename_i hi;cases hs;have hr:=h.row;have:i=s.confs.length:=by omega
   subst this;exact h
theorem UL(hR:Bi u=true)(hb:1≤budget){s:Sp}(hs:WI u model room budget=some s):KO u model room budget s.confs.length 0 s:=KO.all hR (by omega) (KO.start hR hb) hs
theorem YA(hR:Bi u=true)(s:Sp)(j:Nat):(DT u model room s j).length≤28:=CP (Kr _ _ _ _ _) (Ix hR model)
theorem Nv(hR:Bi u=true)(s:Sp):∀i,(Et u model room s i).length≤28*i
 | 0=>by simp[Et]
 | i+1=>by
  have h1:=Nv hR s i;have h2:=YA (model:=model) (room:=room) hR s i;unfold Et at h1 ⊢;rw[List.range_succ,List.flatMap_append,Bs];simp only[List.flatMap_cons,List.flatMap_nil,List.append_nil,Fi];omega
theorem Jq(hR:Bi u=true){s:Sp}{i:Nat}(_hi:i≤s.confs.length):(Et u model room s i).length≤28*i:=Nv hR s i
end
def Mw(par:List Int):Nat→Nat→Nat
 | 0,_=>0
 | f+1,j=>if j=0 then 0 else Mw par f (par.getD j 0).toNat+1
def Mm(par:List Int)(j:Nat):Nat:=Mw par j j
theorem Pj{par:List Int}{n:Nat}(h:∀j,1≤j→j<n→0≤par.getD j 0∧par.getD j 0<(j:Int)):∀(f f' j:Nat),j≤f→j≤f'→j<n→Mw par f j=Mw par f' j
 | 0,f',j,h1,h2,h3=>by
  obtain rfl:j=0:=by omega
  cases f' <;> simp[Mw]
 | f+1,0,j,h1,h2,h3=>by
  obtain rfl:j=0:=by omega
  simp[Mw]
 | f+1,f'+1,j,h1,h2,h3=>by
  rw[Mw,Mw];split
  ·rfl
  ·have:=h j (by omega) h3;rw[Pj h f f' _ (by omega) (by omega) (by omega)]
theorem Hj(par:List Int):Mm par 0=0:=rfl
theorem Ha{par:List Int}{n j:Nat}(h:∀j,1≤j→j<n→0≤par.getD j 0∧par.getD j 0<(j:Int))(h1:1≤j)(hj:j<n):Mm par j=Mm par (par.getD j 0).toNat+1:=by
 obtain⟨i,rfl⟩:∃i,j=i+1:=⟨j - 1,by omega⟩;have hp:=h (i+1) h1 hj;have hs:Mm par (i+1)=Mw par i (par.getD (i+1) 0).toNat+1:=by
  unfold Mm;rw[Mw,if_neg (by omega)]
 rw[hs];unfold Mm;rw[Pj h i _ _ (by omega) (AQ _) (by omega)]
structure Dp(n:Nat)(l:List Ed)(dep:Nat→Nat):Prop where
 d0:dep 0=0
 par:∀j,1≤j→j<n→∃e∈l,e.2.2=(j:Int)∧dep e.1.toNat+1=dep j
 low:∀e∈l,dep e.2.2.toNat≤dep e.1.toNat+1
 le:∀j,j<n→dep j≤j
 mono:∀j j',j≤j'→j'<n→dep j≤dep j'
 ed:∀e∈l,0≤e.1∧e.1<(n:Int)∧0≤e.2.2∧e.2.2<(n:Int)
theorem Nl{par:List Int}{n:Nat}(h:∀j,1≤j→j<n→0≤par.getD j 0∧par.getD j 0<(j:Int))(hm:∀j j',1≤j→j≤j'→j'<n→par.getD j 0≤par.getD j' 0):∀(m j j':Nat),j'≤m→j≤j'→j'<n→Mm par j≤Mm par j'
 | 0,j,j',h0,h1,h2=>by
  obtain rfl:j=0:=by omega
  rw[Hj];exact Nat.zero_le _
 | m+1,j,j',h0,h1,h2=>by
  by_cases e:j=0
  ·subst e;rw[Hj];exact Nat.zero_le _
  ·rw[Ha h (by omega) (by omega),Ha h (j:=j') (by omega) h2];have a:=h j (by omega) (by omega);have b:=h j' (by omega) h2;have c:=hm j j' (by omega) h1 h2;have:=Nl h hm m (par.getD j 0).toNat (par.getD j' 0).toNat (by omega) (by omega) (by omega);omega
theorem Qz{par:List Int}{n:Nat}(h:∀j,1≤j→j<n→0≤par.getD j 0∧par.getD j 0<(j:Int)):∀(m j:Nat),j≤m→j<n→Mm par j≤j
 | 0,j,h0,h1=>by
  obtain rfl:j=0:=by omega
  rw[Hj];exact AQ _
 | m+1,j,h0,h1=>by
  by_cases e:j=0
  ·subst e;rw[Hj];exact AQ _
  ·rw[Ha h (by omega) h1];have a:=h j (by omega) h1;have:=Qz h m (par.getD j 0).toNat (by omega) (by omega);omega
section
variable {u:DG} {model room budget:Int} {s:Sp}
theorem KO.dp(h:KO u model room budget s.confs.length 0 s):Dp s.confs.length s.ed (Mm s.par):=by
 have hp:∀j,1≤j→j<s.confs.length→0≤s.par.getD j 0∧s.par.getD j 0<(j:Int):=fun j h1 h2=>let ⟨a,b,_⟩:=h.parI j h1 h2;⟨a,b⟩;have hed:∀e∈s.ed,0≤e.1∧e.1<(s.confs.length:Int)∧0≤e.2.2∧e.2.2<(s.confs.length:Int):=fun e he=>by
  have ht:=h.edt e he;have hm:(e.1,e.2.1)∈s.ed.map (fun e=>(e.1,e.2.1)):=DJ.2 ⟨e,he,rfl⟩;rw[h.edm,List.take_zero,List.map_nil,List.append_nil]at hm;obtain⟨j,hj,h2⟩:=List.mem_flatMap.1 hm;obtain⟨a,ha,e2⟩:=DJ.1 h2;have hj:=Cg.1 hj;have e3:=(Prod.mk.inj e2).1;omega
 refine⟨rfl,fun j h1 hj=>?_,fun e he=>?_,fun j hj=>Qz hp j j (AQ _) hj,fun j j' h1 h2=>Nl hp h.parM j' j j' (AQ _) h1 h2,hed⟩
 ·obtain⟨e,he,e1,e2,e3⟩:=h.parE j h1 hj;refine⟨e,he,e1,?_⟩;rw[e2,← Ha hp h1 hj]
 ·have ht:=hed e he;by_cases e0:e.2.2.toNat=0
  ·rw[e0,Hj];exact Nat.zero_le _
  ·have hf:=h.first e he (by omega);rw[Ha hp (by omega) (by omega:e.2.2.toNat<s.confs.length)];have:=hp e.2.2.toNat (by omega) (by omega);have:=Nl hp h.parM e.1.toNat (s.par.getD e.2.2.toNat 0).toNat e.1.toNat (AQ _) (by omega) (by omega);omega
end
section
variable {n:Nat} {l:List Ed} {dep:Nat→Nat}
end
theorem Bn.trans2{F G:Nat→Prop}{a b c:World}(h:Bn F a b)(k:Bn G b c)(hG:∀i,i<a.heap.size→G i→F i):Bn F a c:=
 ⟨k.os.trans h.os,k.tape.trans h.tape,k.output.trans h.output,CP h.size k.size,fun i hi hF=>(k.block i (Nat.lt_of_lt_of_le hi h.size) (fun hg=>hF (hG i hi hg))).trans (h.block i hi hF)⟩
theorem Dj{F:Nat→Prop}{w w':World}{r:Option Nat}(hg:w.grownBy w' r)(hr:∀q,r=some q→F q):Bn F w w':=
 ⟨hg.os,hg.tape,hg.output,hg.size,fun k hk hF=>hg.block k hk (fun e=>hF (hr k e.symm))⟩
theorem Jk{F:Nat→Prop}{w w':World}(h:Bn F w w'){b:Nat}(hb:F b)(i:Nat)(v:Value):Bn F w (w'.setCell ⟨b,i,none⟩ v):=
 ⟨h.os,h.tape,h.output,by have:=h.size;simp;exact this,fun k hk hF=>by
  have hne:k≠b:=fun e=>hF (by rw[e];exact hb);rw[Au hne];exact h.block k hk hF⟩
def St(F:Nat→Prop)(P:World→Prop)(w:World):Prop:=∀w',Bn F w w'→P w'
theorem St.now{F:Nat→Prop}{P:World→Prop}{w:World}(h:St F P w):P w:=h w (Bn.refl F w)
theorem St.step{F F':Nat→Prop}{P:World→Prop}{w w':World}(h:St F P w)(k:Bn F w w')(hF:∀q,F' q→F q∨w.heap.size≤q):St F' P w':=fun w'' k'=>by
 refine h w'' (k.trans2 k' fun i hi hf=>?_);rcases hF i hf with e | e
 ·exact e
 ·omega
theorem St.imp{F:Nat→Prop}{P Q:World→Prop}{w:World}(h:St F P w)(hi:∀w',P w'→Q w'):St F Q w:=fun w' k=>hi w' (h w' k)
theorem dR{w:World}{base:Nat}{e:TypeId}{size:Nat}{v:Value}{n:Nat}{xs:List Value}(h:w.ownsRow base e size v n xs){F:Nat→Prop}(hF:∀k,v.ownBlock=some k→¬F k):St F (fun w=>w.ownsRow base e size v n xs) w:=fun _ k=>Al h k hF
section
variable {w wr w':World} {c d:Array Value} {t r:TypeId}
end
structure QV(w:World)(v:Value)(s:Sp):Prop where
 var:∃vC sa sc aa ac ta tc vP vA,v=.agg #[vC,.slice sa (Ai s.confs.length s.ed).S.length sc,.slice aa (Ai s.confs.length s.ed).A.length ac,.slice ta (Ai s.confs.length s.ed).T.length tc,vP,vA]∧FJ w vC s.confs∧Ao w (.agg #[.slice sa (Ai s.confs.length s.ed).S.length sc,.slice aa (Ai s.confs.length s.ed).A.length ac,.slice ta (Ai s.confs.length s.ed).T.length tc]) (Ai s.confs.length s.ed)∧Am w vP s.par∧Am w vA s.ag
theorem QV.below{w w':World}{v:Value}{s:Sp}(h:QV w v s)(hb:Below w.heap.size w w'):QV w' v s:=
 let ⟨vC,sa,sc,aa,ac,ta,tc,vP,vA,e,h1,h2,h3,h4⟩:=h.var
 ⟨vC,sa,sc,aa,ac,ta,tc,vP,vA,e,h1.below hb,h2.below hb,h3.below hb,h4.below hb⟩
theorem TJ{n:Nat}{l:List Ed}(h:AY n l=true):Ad (Iq n l)=n:=by
 rw[Ap (Hf h)];simp[Iq,AJ]
theorem Hh{n:Nat}{l:List Ed}(h:AY (n:Int) l=true):Rt (Ai n l)∧Ad (Ai n l)=n∧(∀e,e∈Av (Ai n l)↔e∈l)∧∀i,i<n→AR (Ai n l) (i:Nat)=De l i:=by
 have e:Ai (n:Int) l=Iq n l:=by unfold Ai;rw[if_pos h,BT]
 rw[e];have hR:=Hf h;refine⟨hR,TJ h,fun x=>Gp h x,fun i hi=>?_⟩;unfold AR;have hS:(Iq n l).S.length=n+1:=by unfold Iq;exact AJ _ _
 rw[if_pos ⟨(Aq _).2 hR,by omega,by rw[hS];omega⟩,BT,Vb h hi]
theorem SQ{α:Type}(m:Nat)(f:Nat→α):BV (m+1) f=BV m f++[f m]:=by
 unfold BV;rw[List.range_succ,Ec];rfl
structure Tq(w wr:World)(c:Array Value)(t:TypeId):Prop where
 below:Below w.heap.size w wr
 blk:wr.heap[w.heap.size]?=some (.cells c t (0,0))
theorem Tq.start(w:World)(c:Array Value)(t:TypeId):Tq w (w.alloc (.cells c t)) c t:=⟨Ae w _,Ar w _⟩
theorem Tq.more{w wr w':World}{c:Array Value}{t:TypeId}(h:Tq w wr c t)(hb:Below wr.heap.size wr w'):Tq w w' c t:=⟨h.below.trans (hb.mono h.below.size),Ah hb h.blk⟩
theorem Tq.size{w wr:World}{c:Array Value}{t:TypeId}(h:Tq w wr c t):w.heap.size+1≤wr.heap.size:=(BO.1 h.blk).1
theorem Tq.grown{w wr w':World}{c:Array Value}{t:TypeId}(h:Tq w wr c t){b:Option Nat}(hg:wr.grownBy w' b)(hr:∀k,b=some k→w.heap.size+1≤k):Tq w w' c t:=by
 have hs:=h.size;refine⟨h.below.grown hg h.below.size (fun k hk=>by have:=hr k hk;omega),?_⟩;rw[hg.block _ (by omega) (fun e=>by have:=hr _ e.symm;omega)];exact h.blk
def UK(base k:Nat)(l:List Int)(vs:List Value)(j:Nat)(v:Value)(w:World):Prop:=
 if j=k then AW base w v l else v=vs.getD j undef
theorem Uo{base k:Nat}{l:List Int}{vs:List Value}{j:Nat}{v:Value}{w w':World}(hb:Below w.heap.size w w')(h:UK base k l vs j v w):UK base k l vs j v w':=by
 unfold UK at h ⊢;split
 ·rename_i e;rw[if_pos e]at h;exact h.more hb
 ·rename_i e;rw[if_neg e]at h;exact h
def Ik(par ag:List Int):Nat→Nat→List Int
 | 0,_=>[]
 | f+1,j=>if j=0 then [] else Ik par ag f (par.getD j 0).toNat++[ag.getD j 0]
theorem Py(par ag:List Int):∀f j,(Ik par ag f j).length=Mw par f j
 | 0,_=>rfl
 | f+1,j=>by
  rw[Ik,Mw];split
  ·rfl
  ·rw[Bs,Py par ag f];rfl
theorem Ov{par ag:List Int}{n:Nat}(h:∀j,1≤j→j<n→0≤par.getD j 0∧par.getD j 0<(j:Int)):∀(f f' j:Nat),j≤f→j≤f'→j<n→Ik par ag f j=Ik par ag f' j
 | 0,f',j,h1,h2,h3=>by
  obtain rfl:j=0:=by omega
  cases f' <;> simp[Ik]
 | f+1,0,j,h1,h2,h3=>by
  obtain rfl:j=0:=by omega
  simp[Ik]
 | f+1,f'+1,j,h1,h2,h3=>by
  rw[Ik,Ik];split
  ·rfl
  ·have:=h j (by omega) h3;rw[Ov h f f' _ (by omega) (by omega) (by omega)]
def DO(par ag:List Int)(j:Nat):List Int:=Ik par ag j j
theorem Pf(par ag:List Int)(j:Nat):(DO par ag j).length=Mm par j:=Py par ag j j
theorem JZ{par ag:List Int}{n j:Nat}(h:∀j,1≤j→j<n→0≤par.getD j 0∧par.getD j 0<(j:Int))(h1:1≤j)(hj:j<n):DO par ag j=DO par ag (par.getD j 0).toNat++[ag.getD j 0]:=by
 obtain⟨i,rfl⟩:∃i,j=i+1:=⟨j - 1,by omega⟩;have hp:=h (i+1) h1 hj;have hs:DO par ag (i+1)=Ik par ag i (par.getD (i+1) 0).toNat++[ag.getD (i+1) 0]:=by
  unfold DO;rw[Ik,if_neg (by omega)]
 rw[hs];unfold DO;rw[Ov h i _ _ (by omega) (AQ _) (by omega)]
theorem Vc(v:Value)(s:Sp)(w:World)(h:QV w v s):
 Calls Tryz.prog 28 #[v,.int .i64 0] w fun r w'=>∃rv,r=.returned rv∧AW w.heap.size w' rv []∧Below w.heap.size w w':=by
 obtain⟨vC,sa,sc,aa,ac,ta,tc,vP,vA,rfl,-⟩:=h.var;have HB:=Aa (Ae w (.cells #[vC,.slice sa (Ai (s.confs.length:Int) s.ed).S.length sc,.slice aa (Ai (s.confs.length:Int) s.ed).A.length ac,.slice ta (Ai (s.confs.length:Int) s.ed).T.length tc,vP,vA] 34));clear h;go_enter Tryz.func28,Tryz.ntmps28;go_wp2_with fail
 go_ret;exact⟨_,rfl,AW.nil _ _,HB.out⟩
theorem cX(v:Value)(s:Sp)(hp:∀j,1≤j→j<s.confs.length→0≤s.par.getD j 0∧s.par.getD j 0<(j:Int))(hlp:s.par.length=s.confs.length)(hla:s.ag.length=s.confs.length)(hn:s.confs.length≤500):∀(m i:Nat) (w:World),i≤m→i<s.confs.length→QV w v s→
 Calls Tryz.prog 28 #[v,.int .i64 (i:Nat)] w fun r w'=>∃rv,r=.returned rv∧AW w.heap.size w' rv (DO s.par s.ag i)∧Below w.heap.size w w'
 | 0,i,w,hm,hi,h=>by
  obtain rfl:i=0:=by omega
  exact Vc v s w h
 | m+1,i,w,hm,hi,h=>by
  by_cases h0:i=0
  ·subst h0;exact Vc v s w h
  have hpi:=hp i (by omega) hi;obtain⟨p,hpp⟩:∃p:Nat,s.par.getD i 0=(p:Int):=⟨(s.par.getD i 0).toNat,by omega⟩;have HTO:=Aa (fun(w':World) (hb:Below w.heap.size w w')=>cX v s hp hlp hla hn m p w' (by omega) (by omega) (h.below hb));have HPL:Hid (DO s.par s.ag i=DO s.par s.ag p++[s.ag.getD i 0]):=Aa (by rw[JZ hp (by omega) hi,hpp,BT]);have HPN:Hid ((DO s.par s.ag p).length≤500):=Aa (by rw[Pf];have:=Qz hp p p (AQ _) (by omega);omega);obtain⟨i0,hi0,hz0,hz1,hz2⟩:=CE Tryz.info3;obtain⟨vC,sa,sc,aa,ac,ta,tc,vP,vA,rfl,hC,hG,hP,hA⟩:=h.var;obtain⟨ca,cc,rfl,-⟩:=hC;obtain⟨pa,pc,rfl,hP⟩:=hP;obtain⟨ba,bc,rfl,hA⟩:=hA;obtain⟨bp,op,rfl,xp⟩:=hP i (by omega);obtain⟨bb,ob,rfl,xa⟩:=hA i (by omega);rw[hpp]at xp;have z0:¬(i:Int)≤0:=by omega
  have z1:¬(s.confs.length:Int)≤(i:Int):=by omega
  have z2:(i:Int)<(s.par.length:Int):=by omega
  have z3:(i:Int)<(s.ag.length:Int):=by omega
  clear h hG hP hA hpi hpp hp hlp hla hn;generalize (Ai (s.confs.length:Int) s.ed).S.length=nS at*;generalize (Ai (s.confs.length:Int) s.ed).A.length=nA at*;generalize (Ai (s.confs.length:Int) s.ed).T.length=nT at*;generalize DO s.par s.ag i=PI at*;generalize DO s.par s.ag p=PP at*;generalize s.ag.getD i 0=ai at*;generalize s.par.length=nP at*;generalize s.ag.length=nB at*;generalize s.confs.length=n at*;have S0:=Aa (Tq.start w #[.slice ca n cc,.slice sa nS sc,.slice aa nA ac,.slice ta nT tc,.slice (some ⟨bp,op,none⟩) nP pc,.slice (some ⟨bb,ob,none⟩) nB bc] 34);have xp:=Af S0.out.below xp;have xa:=Af S0.out.below xa;obtain⟨c0,c1,c2,c3,c4,c5⟩:=JS S0.out.blk;generalize hw2:w.alloc (.cells #[.slice ca n cc,.slice sa nS sc,.slice aa nA ac,.slice ta nT tc,.slice (some ⟨bp,op,none⟩) nP pc,.slice (some ⟨bb,ob,none⟩) nB bc] 34)=w2 at*;go_enter Tryz.func28,Tryz.ntmps28;go_wp2_with fail
  clear hw2;refine BH 7 (fun _=>undef)
   (fun f=>{tmps:=#[.agg #[.slice ca n cc,.slice sa nS sc,.slice aa nA ac,.slice ta nT tc,.slice (some ⟨bp,op,none⟩) nP pc,.slice (some ⟨bb,ob,none⟩) nB bc],.int .i64 (i:Nat),.pointer (some ⟨w.heap.size,0,none⟩),undef,.slice none 0 0,undef,.int .i64 (i:Nat),.bool false,.bool false,.int .i64 (i:Nat),.pointer (some ⟨w.heap.size,0,none⟩),.slice ca n cc,.int .i64 (n:Nat),.bool false,.bool false,f 15,f 16,f 17,f 18,f 19,f 20,f 21,undef,undef,undef,undef,undef,undef,undef,undef],defers:=[]}) (fun j=>j+15)
   (UK w2.heap.size 6 PP [(.agg #[.slice ca n cc,.slice sa nS sc,.slice aa nA ac,.slice ta nT tc,.slice (some ⟨bp,op,none⟩) nP pc,.slice (some ⟨bb,ob,none⟩) nB bc]),(.pointer (some ⟨w.heap.size,4,none⟩)),(.slice (some ⟨bp,op,none⟩) nP pc),(.int .i64 (i:Nat)),(.pointer (some ⟨bp,op+i,none⟩)),(.int .i64 (p:Nat))])
   rfl (by kernel_rfl) (by kernel_rfl) (by kernel_rfl) (by decide) (by kernel_rfl) (fun i u w w' hb h=>Uo hb h) (by kernel_rfl) (by kernel_rfl) ?_ ?_ ?_
  ·intro j hj f v;rcases j with _ | _ | _ | _ | _ | _ | _ | j
   all_goals first | rfl | omega | (simp at hj;omega)
  ·refine⟨?_,?_,?_,?_,?_,?_,?_,trivial⟩
   ·intro f w' hb hd K hK;obtain⟨e0,e1,e2,e3,e4,e5⟩:=gL hb c0 c1 c2 c3 c4 c5;dsimp only;go_simp;exact hK (.agg #[.slice ca n cc,.slice sa nS sc,.slice aa nA ac,.slice ta nT tc,.slice (some ⟨bp,op,none⟩) nP pc,.slice (some ⟨bb,ob,none⟩) nB bc]) w' (Ak _ _) rfl
   ·intro f w' hb hd K hK;dsimp only;go_simp;exact hK (.pointer (some ⟨w.heap.size,4,none⟩)) w' (Ak _ _) rfl
   ·intro f w' hb hd K hK;have h1:f 16=(.pointer (some ⟨w.heap.size,4,none⟩)):=hd 1 (by kernel_rfl);have e0:=Af hb c4;dsimp only;go_simp;have q:=hK (.slice (some ⟨bp,op,none⟩) nP pc) w' (Ak _ _) rfl;simp only[h1]at q;exact q
   ·intro f w' hb hd K hK;dsimp only;go_simp;exact hK (.int .i64 (i:Nat)) w' (Ak _ _) rfl
   ·intro f w' hb hd K hK;have h2:f 17=(.slice (some ⟨bp,op,none⟩) nP pc):=hd 2 (by kernel_rfl);have h3:f 18=(.int .i64 (i:Nat)):=hd 3 (by kernel_rfl);dsimp only;go_simp;have q:=hK (.pointer (some ⟨bp,op+i,none⟩)) w' (Ak _ _) rfl;simp only[h2,h3]at q;exact q
   ·intro f w' hb hd K hK;have h4:f 19=(.pointer (some ⟨bp,op+i,none⟩)):=hd 4 (by kernel_rfl);have e0:=Af hb xp;dsimp only;go_simp;have q:=hK (.int .i64 (p:Nat)) w' (Ak _ _) rfl;simp only[h4]at q;exact q
   ·intro f w' hb hd K hK;have h0:f 15=(.agg #[.slice ca n cc,.slice sa nS sc,.slice aa nA ac,.slice ta nT tc,.slice (some ⟨bp,op,none⟩) nP pc,.slice (some ⟨bb,ob,none⟩) nB bc]):=hd 0 (by kernel_rfl);have h5:f 20=(.int .i64 (p:Nat)):=hd 5 (by kernel_rfl);have hsz:w2.heap.size≤w'.heap.size:=hb.size;have HO2:=Aa (HTO.out w' (S0.out.below.trans (((Ak _ w2).drew.trans hb).mono S0.out.below.size)));dsimp only;go_simp;go_wp2_with (go_at_call 28;refine HO2.out.mono ?_;rintro e w3 ⟨rv,rfl,hO,hb3⟩)
    have q:=hK _ w3 hb3 (CI hO hsz:AW w2.heap.size w3 rv PP);simp only[h0,h5]at q;exact q
  intro f w3 hb3 hr;have hO:AW w2.heap.size w3 (f 21) PP:=hr 6 (by decide);clear hr;obtain⟨oa,oc,h21⟩:=Bp hO;rw[h21]at hO;simp only[h21,List.drop_succ_cons,List.drop_zero];generalize f 15=z85;generalize f 16=z86;generalize f 17=z87;generalize f 18=z88;generalize f 19=z89;generalize f 20=z90;have O3:=Aa hO;have HB3:Hid (Below w2.heap.size w2 w3):=Aa hb3;have c5:=Af HB3.out c5;have xa:=Af HB3.out xa;have hpn:=HPN.out;clear hO hb3 HTO c0 c1 c2 c3 c4 xp;go_wp2_with (at_builtin;refine wpList_append_lies (w3.alloc (.cells #[.int .i64 ai] 3)) rfl (.tmp 22) (.tmp 28) 22 rfl w2.heap.size 3 i0 (.int .i64 0) 1 8 Tryz.underlying22 hi0 hz0 hz1 hz2 rfl (by decide) (.slice oa PP.length oc) PP.length (PP.map (Value.int .i64)) rfl (World.ownsRow.alloc O3.out _) ⟨w3.heap.size,0,none⟩ 1 1 [.int .i64 ai] rfl rfl (World.news_of_block (Ar _ _)) (by simp[Value.oneCell']) (by omega) (by unfold maxLen;omega) (by omega) (by have:=HB3.out.size;simp only[Az];omega) (w3.heap.size+1) (by simp) ?_;intro g7 cap7 w7 hown7 hgr7 hor7 hlt7;have HB7:=Aa (CA HB3.out O3.out hgr7);have O7:Hid (AW w2.heap.size w7 (.slice (some ⟨g7,0,none⟩) (PP.length+1) cap7) PI):=Aa (by unfold AW;rw[HPL.out,Bs,Ec];exact hown7);clear hown7 hgr7 hor7 hlt7)
  go_ret;exact⟨_,rfl,CI O7.out S0.out.below.size,S0.out.below.trans (HB7.out.mono S0.out.below.size)⟩
structure Zz(w wr:World)(uc:Array Value)(D:Nat)(d0 d1 d2 d3:Value):Prop where
 low:Below w.heap.size w wr
 bu:wr.heap[w.heap.size]?=some (.cells uc 62 (0,0))
 br:wr.heap[w.heap.size+1]?=some (.cells #[.slice none 0 0,.slice none 0 0,.slice none 0 0,.slice none 0 0] 62 (0,0))
 bd:wr.heap[D]?=some (.cells #[d0,d1,d2,d3] 62 (0,0))
 hD:w.heap.size+2≤D
section
variable {w wr w':World} {uc:Array Value} {D:Nat} {d0 d1 d2 d3:Value}
theorem Zz.size(h:Zz w wr uc D d0 d1 d2 d3):D+1≤wr.heap.size:=(BO.1 h.bd).1
theorem Zz.more(h:Zz w wr uc D d0 d1 d2 d3)(hb:Below wr.heap.size wr w'):Zz w w' uc D d0 d1 d2 d3:=⟨h.low.trans (hb.mono h.low.size),Ah hb h.bu,Ah hb h.br,Ah hb h.bd,h.hD⟩
theorem Zz.set(h:Zz w wr uc D d0 d1 d2 d3){g i:Nat}(h1:w.heap.size+2≤g)(h2:g<D)(v:Value):Zz w (wr.setCell ⟨g,i,none⟩ v) uc D d0 d1 d2 d3:=by
 refine⟨h.low.setCell (p:=⟨g,i,none⟩) (by show w.heap.size≤g;omega) v,?_,?_,?_,h.hD⟩
 ·rw[Au (by omega)];exact h.bu
 ·rw[Au (by omega)];exact h.br
 ·rw[Au (by omega)];exact h.bd
end
theorem Wu{w wr:World}{uc:Array Value}{D:Nat}{v0 v1 v2 v3:Value}{rv bv:List Value}{c:Cf}(m:Zz w wr uc D v0 v1 v2 v3)(o:BB (w.heap.size+2) wr v0 v1 v2 v3 rv bv c):
 BB w.heap.size ((((wr.setCell ⟨w.heap.size+1,0,none⟩ v0).setCell ⟨w.heap.size+1,1,none⟩ v1).setCell ⟨w.heap.size+1,2,none⟩ v2).setCell ⟨w.heap.size+1,3,none⟩ v3) v0 v1 v2 v3 rv bv c∧
 Below w.heap.size w ((((wr.setCell ⟨w.heap.size+1,0,none⟩ v0).setCell ⟨w.heap.size+1,1,none⟩ v1).setCell ⟨w.heap.size+1,2,none⟩ v2).setCell ⟨w.heap.size+1,3,none⟩ v3)∧
 ((((wr.setCell ⟨w.heap.size+1,0,none⟩ v0).setCell ⟨w.heap.size+1,1,none⟩ v1).setCell ⟨w.heap.size+1,2,none⟩ v2).setCell ⟨w.heap.size+1,3,none⟩ v3).cell? ⟨w.heap.size+1,0,none⟩=some v0∧
 ((((wr.setCell ⟨w.heap.size+1,0,none⟩ v0).setCell ⟨w.heap.size+1,1,none⟩ v1).setCell ⟨w.heap.size+1,2,none⟩ v2).setCell ⟨w.heap.size+1,3,none⟩ v3).cell? ⟨w.heap.size+1,1,none⟩=some v1∧
 ((((wr.setCell ⟨w.heap.size+1,0,none⟩ v0).setCell ⟨w.heap.size+1,1,none⟩ v1).setCell ⟨w.heap.size+1,2,none⟩ v2).setCell ⟨w.heap.size+1,3,none⟩ v3).cell? ⟨w.heap.size+1,2,none⟩=some v2∧
 ((((wr.setCell ⟨w.heap.size+1,0,none⟩ v0).setCell ⟨w.heap.size+1,1,none⟩ v1).setCell ⟨w.heap.size+1,2,none⟩ v2).setCell ⟨w.heap.size+1,3,none⟩ v3).cell? ⟨w.heap.size+1,3,none⟩=some v3:=by
 have hB:w.heap.size+1<w.heap.size+2:=by omega
 have hW:w.heap.size≤w.heap.size+1:=by omega
 have OF:=((((o.setlow (i:=0) hB v0).setlow (i:=1) hB v1).setlow (i:=2) hB v2).setlow (i:=3) hB v3).low (show w.heap.size≤w.heap.size+2 by omega);have kb:=Ac (i:=3) (v:=v3) (Ac (i:=2) (v:=v2) (Ac (i:=1) (v:=v1) (Ac (i:=0) (v:=v0) m.br)));have BF:=(((m.low.setCell (p:=⟨w.heap.size+1,0,none⟩) hW v0).setCell (p:=⟨w.heap.size+1,1,none⟩) hW v1).setCell (p:=⟨w.heap.size+1,2,none⟩) hW v2).setCell (p:=⟨w.heap.size+1,3,none⟩) hW v3;exact⟨OF,BF,Ab kb 0 v0 rfl,Ab kb 1 v1 rfl,Ab kb 2 v2 rfl,Ab kb 3 v3 rfl⟩
theorem Yu(cv:Value)(c:Cf)(model loc:Int)(t:Nat)(w:World)(hc:Ll w cv c)(hl:dQ c)(ht:t<c.buf.length)(hml:model=2∧loc=-1∨model=3)(hf:DM c model t loc=true)(hm:0≤(Es (c.buf.getD t []) model loc).2.1.1∧(Es (c.buf.getD t []) model loc).2.1.1<(c.mem.length:Int)):
 Calls Tryz.prog 35 #[cv,.int .i64 model,.int .i64 (t:Nat),.int .i64 loc] w fun r w'=>∃vp vr vm vb rv bv,r=.returned (.tuple #[.agg #[vp,vr,vm,vb],.bool true])∧BB w.heap.size w' vp vr vm vb rv bv (GC c model t loc)∧Below w.heap.size w w':=by
 have HCP:=Aa (fun(w':World) (hb:Below w.heap.size w w')=>QL cv c w' (hc.below hb) hl);have HFL:=Aa (fun(w':World) (hb:Below w.heap.size w w')=>(by have:=MX cv c model loc t w' (hc.below hb) ht (hl.bufs t ht) hml;rwa [hf]at this:Calls Tryz.prog 38 #[cv,.int .i64 model,.int .i64 (t:Nat),.int .i64 loc] w' fun r w2=>r=.returned (.bool true)∧Below w'.heap.size w' w2));obtain⟨pa,pc,ra,rc,ma,mc,ba,bc,rfl,h1,h2,h3,h4⟩:=hc.var;obtain⟨a4,c4,e4,h4⟩:=h4;cases e4;obtain⟨b4,o4,u4,rfl,x4,hen4⟩:=h4 t ht;have hbl:=hl.bufs t ht;have HPO:Hid (∀w':World,Below w.heap.size w w'→Calls Tryz.prog 62 #[u4,.int .i64 model,.int .i64 loc] w' fun r w2=>∃na nl nc,r=.returned (.tuple #[.slice na nl nc,.agg #[.int .i64 (Es (c.buf.getD t []) model loc).2.1.1,.int .i64 (Es (c.buf.getD t []) model loc).2.1.2],.bool (Es (c.buf.getD t []) model loc).2.2])∧Cb w'.heap.size w2 (.slice na nl nc) (Es (c.buf.getD t []) model loc).1∧Below w'.heap.size w' w2):=Aa (fun w' hb=>by
  rcases hml with⟨rfl,rfl⟩ | rfl
  ·refine(UP u4 _ w' (hen4.below hb) hbl).mono ?_;rintro r w2 ⟨rv,rfl,h1,h2⟩;obtain⟨na,nc,rfl⟩:=Bp h1;exact⟨na,_,nc,rfl,h1,h2⟩
  ·refine(UW u4 _ loc w' (hen4.below hb) hbl).mono ?_;rintro r w2 ⟨rv,rfl,h1,h2⟩;obtain⟨na,nc,rfl⟩:=Bp h1;exact⟨na,_,nc,rfl,h1,h2⟩)
 unfold DM at hf;unfold GC;generalize Es (c.buf.getD t []) model loc=P at*;obtain⟨row,⟨e1,en⟩,okk⟩:=P;dsimp only at hf hm HPO ⊢;subst hf;obtain⟨lo,rfl⟩:∃lo:Nat,e1=(lo:Int):=⟨e1.toNat,by omega⟩;rw[BT];have hlo:lo<c.mem.length:=by omega
 have z1:(t:Int)<(c.buf.length:Int):=by omega
 have z2:(lo:Int)<(c.mem.length:Int):=by omega
 have S0:=Aa (OT.start w #[.slice pa c.pc.length pc,.slice ra c.regs.length rc,.slice ma c.mem.length mc,.slice (some ⟨b4,o4,none⟩) c.buf.length bc] 62 #[.slice none 0 0,.slice none 0 0,.slice none 0 0,.slice none 0 0] 62);clear hc hl hml hm h1 h2 h3 h4 hen4 hbl;go_enter Tryz.func35,Tryz.ntmps35;go_wp2_with (first
  | (go_at_call 62;refine(HPO.out _ C5.out.low).mono ?_;rintro e1 w6 ⟨na,nl,nc,rfl,hnv,hb6⟩;have C7:=Aa ((C5.out.more hb6).more (Ae w6 (.cells #[.int .i64 (lo:Nat),.int .i64 en] 107)));have O7:=Aa ((O5.out.more hb6).more (Ae w6 (.cells #[.int .i64 (lo:Nat),.int .i64 en] 107)));have E7:=Aa (Ar w6 (.cells #[.int .i64 (lo:Nat),.int .i64 en] 107));have N7:=Aa (Cb.more hnv (Ae w6 (.cells #[.int .i64 (lo:Nat),.int .i64 en] 107)));have HD5:=Aa C5.out.size;have HS6:=Aa hb6.size;have HB7:=Aa (O7.out.setBuf ht (N:=D) LT.out (CI N7.out (by have:=HD5.out;have:=C5.out.hD;omega)) (fun q e=>by have h1:=(World.ownsRow.lt N7.out q e).1;have h2:=HD5.out;omega));have O8:=Aa HB7.out.1;have f7:=HB7.out.2;have c7:=World.ownsRow.cellAt O7.out.buf.out t (by omega);rw[Bf (by have:=O7.out.buf.len;omega)]at c7;have hgb:=Aa (And.intro (World.ownsRow.lt O7.out.buf.out gb rfl).1 (LT.out (.slice (some ⟨gb,0,none⟩) c.buf.length kb) (by simp) gb rfl));have hgm:=Aa (And.intro (World.ownsRow.lt O7.out.mem gm rfl).1 (LT.out (.slice (some ⟨gm,0,none⟩) c.mem.length km) (by simp) gm rfl));have C8:=Aa (C7.out.set (i:=t) hgb.out.1 hgb.out.2 (.slice na nl nc));have HM8:=Aa (BB.setMem (c:={c with buf:=c.buf.set t row}) O8.out (t:=lo) hlo en);have O9:=Aa HM8.out.1;have f8:=HM8.out.2;have c8:((w6.alloc (.cells #[.int .i64 (lo:Nat),.int .i64 en] 107)).setCell ⟨gb,t,none⟩ (.slice na nl nc)).cell? ⟨gm,lo,none⟩=some (.int .i64 (c.mem.getD lo 0)):=O8.out.mem.cell hlo;have C9:=Aa (C8.out.set (i:=lo) hgm.out.1 hgm.out.2 (.int .i64 en));clear C5 O5 hb6 hnv HB7 HM8 LT;have d3:=Ab C7.out.bd 3 _ rfl;have d2:=Ab C8.out.bd 2 _ rfl;have E8:Hid (((w6.alloc (.cells #[.int .i64 (lo:Nat),.int .i64 en] 107)).setCell ⟨gb,t,none⟩ (.slice na nl nc)).heap[w6.heap.size]?=some (.cells #[.int .i64 (lo:Nat),.int .i64 en] 107 (0,0))):=Aa (by rw[Au (by have h1:=hgb.out.2;have h2:=HD5.out;have h3:=HS6.out;omega)];exact E7.out);obtain⟨e0,e1⟩:=Wz E8.out;obtain⟨k0,k1,k2,k3⟩:=BX C9.out.bd;obtain⟨r0,r1,r2,r3⟩:=BX C9.out.br;obtain⟨g0,g1,g2,g3⟩:=Nx C9.out.br)
  | (go_at_call 38;refine(HFL.out _ C4.out.low).mono ?_;rintro e1 w5 ⟨rfl,hb5⟩;have C5:=Aa (C4.out.more hb5);have O5:=Aa (O4.out.more hb5);clear C4 O4 hb5;generalize w3.heap.size=D at*;have l3:=Ab C5.out.bu 3 _ rfl;have x4:=Af C5.out.low x4)
  | (go_at_call 33;refine(HCP.out _ S0.out.below).mono ?_;rintro e1 w3 ⟨vp,vr,vm,vb,rv,bv,rfl,hoc,hb3⟩;obtain⟨dpa,kp,rfl⟩:=Bp hoc.pc;obtain⟨dra,kr,rfl⟩:=Bp hoc.regs.out;obtain⟨gm,km,rfl,-,-⟩:=AW.form hoc.mem (by omega);obtain⟨gb,kb,rfl,-,-⟩:=World.ownsRow.form hoc.buf.out (by omega);have LT:=Aa hoc.lts;have S3:=Aa (S0.out.more hb3);have hs3:=hb3.size;have C4:Hid (Zz w (w3.alloc (.cells #[.slice dpa c.pc.length kp,.slice dra c.regs.length kr,.slice (some ⟨gm,0,none⟩) c.mem.length km,.slice (some ⟨gb,0,none⟩) c.buf.length kb] 62)) #[.slice pa c.pc.length pc,.slice ra c.regs.length rc,.slice ma c.mem.length mc,.slice (some ⟨b4,o4,none⟩) c.buf.length bc] w3.heap.size (.slice dpa c.pc.length kp) (.slice dra c.regs.length kr) (.slice (some ⟨gm,0,none⟩) c.mem.length km) (.slice (some ⟨gb,0,none⟩) c.buf.length kb)):=Aa ⟨S3.out.below.trans ((Ae w3 _).mono S3.out.below.size),Ah (Ae w3 _) S3.out.blk1,Ah (Ae w3 _) S3.out.blk2,Ar w3 _,by simp only[Az]at hs3;omega⟩;have O4:=Aa ((hoc.low (base':=w.heap.size+2) (by simp only[Az];omega)).more (Ae w3 (.cells #[.slice dpa c.pc.length kp,.slice dra c.regs.length kr,.slice (some ⟨gm,0,none⟩) c.mem.length km,.slice (some ⟨gb,0,none⟩) c.buf.length kb] 62)));clear hoc hb3 S0 S3 HCP hs3;obtain⟨l0,l1,l2,l3⟩:=BX C4.out.bu))
 obtain⟨OF,BF,y0,y1,y2,y3⟩:=Wu C9.out O9.out;refine Bd (v:=.tuple #[.agg #[.slice dpa c.pc.length kp,.slice dra c.regs.length kr,.slice (some ⟨gm,0,none⟩) c.mem.length km,.slice (some ⟨gb,0,none⟩) c.buf.length kb],.bool true]) (by simp[results,Tryz.results35,go_sem,y0,y1,y2,y3]) rfl ?_;first
  | exact⟨_,_,_,_,rfl,⟨_,_,OF⟩,BF⟩
  | exact⟨_,_,_,_,_,_,rfl,OF,BF⟩
structure Mn(w wr:World)(gc:Array Value):Prop where
 below:Below w.heap.size w wr
 vg:wr.heap[w.heap.size]?=some (.cells gc 32 (0,0))
 vr:wr.heap[w.heap.size+1]?=some (.cells #[.slice none 0 0,.slice none 0 0,.slice none 0 0] 32 (0,0))
theorem Mn.size{w wr:World}{gc:Array Value}(h:Mn w wr gc):w.heap.size+1<wr.heap.size:=(BO.1 h.vr).1
theorem Mn.more{w wr w':World}{gc:Array Value}(h:Mn w wr gc)(hb:Below wr.heap.size wr w'):Mn w w' gc:=⟨h.below.trans (hb.mono h.below.size),Ah hb h.vg,Ah hb h.vr⟩
theorem Mn.frm{w wr w':World}{gc:Array Value}(h:Mn w wr gc){F:Nat→Prop}(hf:Bn F wr w')(hF:∀q,F q→w.heap.size+1<q):Mn w w' gc:=
 ⟨h.below.trans (hf.below (fun k hk=>by have:=hF k hk;omega) h.below.size),hf.heap h.vg (fun e=>by have:=hF _ e;omega),hf.heap h.vr (fun e=>by have:=hF _ e;omega)⟩
theorem Oz(w:World)(gc:Array Value):Mn w ((w.alloc (.cells gc 32)).alloc (.cells #[.slice none 0 0,.slice none 0 0,.slice none 0 0] 32)) gc:=
 ⟨((Ak _ _).alloc (AQ _) _).alloc (by simp) _,Ah (Ae _ _) (Ar w _),AG _ _ _ (by simp)⟩
theorem Mn.ret{w wr:World}{gc:Array Value}{G:Gr}{a1 a2 a3:Option Addr}{n1 n2 n3 c1 c2 c3:Nat}(h:Mn w wr gc)(hG:Ao wr (.agg #[.slice a1 n1 c1,.slice a2 n2 c2,.slice a3 n3 c3]) G):
 (((wr.setCell ⟨w.heap.size+1,0,none⟩ (.slice a1 n1 c1)).setCell ⟨w.heap.size+1,1,none⟩ (.slice a2 n2 c2)).setCell ⟨w.heap.size+1,2,none⟩ (.slice a3 n3 c3)).cell? ⟨w.heap.size+1,0,none⟩=some (.slice a1 n1 c1)∧
 (((wr.setCell ⟨w.heap.size+1,0,none⟩ (.slice a1 n1 c1)).setCell ⟨w.heap.size+1,1,none⟩ (.slice a2 n2 c2)).setCell ⟨w.heap.size+1,2,none⟩ (.slice a3 n3 c3)).cell? ⟨w.heap.size+1,1,none⟩=some (.slice a2 n2 c2)∧
 (((wr.setCell ⟨w.heap.size+1,0,none⟩ (.slice a1 n1 c1)).setCell ⟨w.heap.size+1,1,none⟩ (.slice a2 n2 c2)).setCell ⟨w.heap.size+1,2,none⟩ (.slice a3 n3 c3)).cell? ⟨w.heap.size+1,2,none⟩=some (.slice a3 n3 c3)∧
 Ao (((wr.setCell ⟨w.heap.size+1,0,none⟩ (.slice a1 n1 c1)).setCell ⟨w.heap.size+1,1,none⟩ (.slice a2 n2 c2)).setCell ⟨w.heap.size+1,2,none⟩ (.slice a3 n3 c3)) (.agg #[.slice a1 n1 c1,.slice a2 n2 c2,.slice a3 n3 c3]) G∧
 Below w.heap.size w (((wr.setCell ⟨w.heap.size+1,0,none⟩ (.slice a1 n1 c1)).setCell ⟨w.heap.size+1,1,none⟩ (.slice a2 n2 c2)).setCell ⟨w.heap.size+1,2,none⟩ (.slice a3 n3 c3)):=by
 obtain⟨q1,q2,q3,q4⟩:=TQ h.vr (.slice a1 n1 c1) (.slice a2 n2 c2) (.slice a3 n3 c3);exact⟨q1,q2,q3,hG.off h.vr q4,h.below.trans (q4.below (fun k hk=>by omega) h.below.size)⟩
def JJ(m n x:Nat):Array Bool:=(Dv m n).setIfInBounds x false
def Uu(md:Region.Mode)(ops:Array Oper)(n x:Nat):Bool:=(List.range n).all (fun i=>i==x || EE md ops n i)&&(List.range ops.size).all (fun j=>decide (j≤n) || EE md ops j (j - 1))
section
variable {P:Program} {ops:Array Oper} {Q:Exit→Act→World→Prop} {md:Region.Mode}
theorem Im{listed:Array Bool}{j i:Nat}(hw:EE md ops j i=true)(hi:listed.getD i true=false):j∉Region.ready md ops listed:=fun hj=>by
 obtain⟨-,o,ho,hall⟩:=mem_ready.1 hj;unfold EE at hw;simp only[ho,Option.map_some,Option.getD_some,Array.any_eq_true',Ci,beq_iff_eq]at hw;obtain⟨e,he,hbd,rfl⟩:=hw;have:=hall e he hbd;rw[getD_both hi]at this;cases this
theorem cL{n x:Nat}{listed:Array Bool}(inv:HeadInv md ops n listed)(hn:n≤ops.size)(hx:x<n)(hall:∀j,j<n→j≠x→listed.getD j true=true)(hxf:listed.getD x true=false):listed=JJ ops.size n x:=by
 have hs:=inv.size;refine Array.ext (by simp[JJ,Dv];omega) fun j h1 h2=>?_;have e1:listed.getD j true=listed[j]:=by simp[h1]
 by_cases hj:j<n
 ·by_cases e:j=x
  ·subst e;rw[e1]at hxf;rw[hxf];simp[JJ]
  ·have:=hall j hj e;rw[e1]at this;rw[this];simp[JJ,Dv,hj,Ne.symm e]
 ·have:=inv.tail j (by omega) (by omega);rw[e1]at this;rw[this];simp[JJ,Dv,List.getElem_append,hj,show x≠j by omega]
theorem XZ{m n x:Nat}(hx:x<n)(_hn:n≤m):OH (JJ m n x)=m - n+1:=by
 unfold JJ OH;have h1:=Jh ((Dv m n).setIfInBounds x false).toList x (by simp[Dv];omega) (by
  have hxl:x<(Dv m n).toList.length:=by simp[Dv];omega
  rw[Array.toList_setIfInBounds,AM,List.getElem?_set_self hxl]
  rfl)
 have e:(((Dv m n).setIfInBounds x false).toList.set x true)=(Dv m n).toList:=by
  apply List.ext_getElem
  ·simp[Dv]
  ·intro i h1 h2;simp only[Array.toList_setIfInBounds,List.set_set,List.getElem_set];split
   ·rename_i e;subst e;simp[Dv,hx]
   ·rfl
 rw[e]at h1;have h2:(Dv m n).toList.countP (fun b=>!b)=m - n:=Nf;omega
theorem NO (n x:Nat) (mk:(Nat→Value)→Act) (d:Nat→Nat) (w0:World) (R:Nat→Value→World→Prop)
 (hs:Uu md ops n x=true) (hx:x<n) (hn:n<ops.size) (hseq:Region.seqB md ops (ops.size - n) n (Dv ops.size n)=true)
 (hR:∀i u w w',Below w.heap.size w w'→R i u w→R i u w')
 (hlex:Dg md ops=true) (hinj:∀i j,i<n→j<n→d i=d j→i=j)
 (hput:∀j,j<n→∀f v,(mk f).put (some (d j)) v=mk (Bx f (d j) v))
 (hstep:∀j o,j<n→ops[j]?=some o→Nh P ops Q md mk d w0 R j o)
 (hend:∀f w,Below w0.heap.size w0 w→(∀j,j<n→R j (f (d j)) w)→wpList P ops Q (ops.toList.drop n) (mk f) w)
 (hlate:∀f w,Below w0.heap.size w0 w→(∀j,j<n→j≠x→R j (f (d j)) w)→wpAny P md ops Q (ops.size - n+1) (JJ ops.size n x) (mk f) w):
 ∀(fuel:Nat) (listed:Array Bool) (f:Nat→Value) (w:World),HeadInv md ops n listed→fuel=OH listed→Below w0.heap.size w0 w→
  (∀j,j<n→listed.getD j true=true→R j (f (d j)) w)→wpAny P md ops Q fuel listed (mk f) w:=by
 have hfin:∀(fuel:Nat) (listed:Array Bool) (f:Nat→Value) (w:World),HeadInv md ops n listed→fuel=OH listed→Below w0.heap.size w0 w→
  (∀j,j<n→listed.getD j true=true→R j (f (d j)) w)→(∀j,j<n→listed.getD j true=true)→wpAny P md ops Q fuel listed (mk f) w:=by
  intro fuel listed f w inv hf hb hr hall;have e:=UI inv (Nat.le_of_lt hn) hall;have hl:(ops.toList.drop n).length=ops.size - n:=by simp
  have hfu:fuel=(ops.toList.drop n).length:=by rw[hf,e,Nf,hl]
  subst hfu;refine wpAny_of_seq (ops.toList.drop n) n listed (mk f) w (fun j=>by simp[List.getElem?_drop]) (by rw[hl,e];exact hseq) (hend f w hb fun j hj=>hr j hj (hall j hj))
 intro fuel
 induction fuel with
 | zero=>
  intro listed f w inv hf hb hr;refine hfin 0 listed f w inv hf hb hr fun j hj=>?_;cases hl:listed.getD j true with
  | true=>rfl
  | false=>
   have hjs:j<listed.size:=by rw[inv.size];omega
   have hpos:0<listed.toList.countP (fun b=>!b):=by
    rw[List.countP_pos_iff];refine⟨listed[j],by simp,?_⟩;simpa[hjs]using hl
   unfold OH at hf;omega
 | succ fuel ih=>
  intro listed f w inv hf hb hr;by_cases hall:∀j,j<n→listed.getD j true=true
  ·exact hfin (fuel+1) listed f w inv hf hb hr hall
  ·by_cases hlx:∀j,j<n→j≠x→listed.getD j true=true
   ·have hxf:listed.getD x true=false:=by
     cases hl:listed.getD x true with
     | false=>rfl
     | true=>exact absurd (fun j hj=>by by_cases e:j=x;rw[e];exact hl;exact hlx j hj e) hall
    have e:=cL inv (Nat.le_of_lt hn) hx hlx hxf;have hfe:fuel+1=ops.size - n+1:=by rw[hf,e,XZ hx (Nat.le_of_lt hn)]
    rw[hfe,e];exact hlate f w hb (fun j hj hjx=>hr j hj (hlx j hj hjx))
   obtain⟨j0,hj0,hjx,hl0⟩:∃j,j<n∧j≠x∧listed.getD j true=false:=by
    refine Classical.byContradiction fun hne=>hlx fun j hj hjx=>?_;cases hl:listed.getD j true with
    | true=>rfl
    | false=>exact absurd ⟨j,hj,hjx,hl⟩ hne
   refine⟨fun h0=>?_,fun i hi=>?_⟩
   ·exfalso;have key:∀j,j<n→listed.getD j true=true:=by
     intro j
     induction j using Nat.strongRecOn with
     | _ j ih=>
      intro hj;cases hl:listed.getD j true with
      | true=>rfl
      | false=>
       exfalso;have hjs:j<ops.size:=by omega
       have hm:j∈Region.ready md ops listed:=by
        rw[mem_ready];refine⟨hl,ops[j],by simp[hjs],fun e he hbd=>?_⟩;have hle:e.on<j:=by
         unfold Dg at hlex;have:=List.all_eq_true.1 hlex j (Cg.2 hjs);simp only[Array.getElem?_eq_getElem hjs,Option.map_some,Option.getD_some,Array.all_eq_true']at this;have:=this e he;simpa[hbd]using this
        have h1:=ih e.on hle (by omega);have hsz:e.on<listed.size:=by rw[inv.size];omega
        simpa[hsz]using h1
       rw[h0]at hm;cases hm
    exact hall key
   ·have hin:i<n:=by
     rcases Nat.lt_or_ge i n with h | h
     ·exact h
     ·exfalso;unfold Uu at hs;rw[Ci]at hs;rcases Nat.eq_or_lt_of_le h with e | e
      ·have hw:=List.all_eq_true.1 hs.1 j0 (Cg.2 hj0);rw[Bool.or_eq_true,beq_iff_eq]at hw;exact Im (hw.resolve_left hjx) hl0 (e▸hi)
      ·have his:i<ops.size:=(BO.1 (mem_ready.1 hi).2.choose_spec.1).1;have hw:=List.all_eq_true.1 hs.2 i (Cg.2 his);rw[Bool.or_eq_true,decide_eq_true_eq]at hw;exact Im (hw.resolve_left (by omega)) (inv.tail (i - 1) (by omega) (by omega)) hi
    obtain⟨hl,o,ho,hall2⟩:=mem_ready.1 hi;have his:i<ops.size:=(BO.1 ho).1;have hil:i<listed.size:=by rw[inv.size];omega
    have hdeps:∀k,EE md ops i k=true→R k (f (d k)) w:=by
     intro k hk;unfold EE at hk;simp only[ho,Option.map_some,Option.getD_some,Array.any_eq_true',Ci,beq_iff_eq]at hk;obtain⟨e,he,hbd,rfl⟩:=hk;have hlf:=hall2 e he hbd;have hle:e.on<i:=by
      unfold Dg at hlex;have:=List.all_eq_true.1 hlex i (Cg.2 his);simp only[ho,Option.map_some,Option.getD_some,Array.all_eq_true']at this;have:=this e he;simpa[hbd]using this
     have hlt:e.on<listed.size:=by omega
     exact hr e.on (by omega) (by simpa[hlt]using hlf)
    have hk:=hstep i o hin ho f w hb hdeps (wpAny P md ops Q fuel (listed.setIfInBounds i true)) (by
     intro v w' hb' hv;rw[hput i hin];refine ih _ _ _ (inv.set hi hin) ?_ (hb.trans (hb'.mono hb.size)) ?_
     ·unfold OH at hf ⊢;have:=Jh listed.toList i (by simpa using hil) (by simpa[hil]using hl);rw[Array.toList_setIfInBounds];omega
     ·intro j hj hlj;by_cases e:j=i
      ·subst e;rw[AS];exact hv
      ·rw[AE _ _ _ _ (fun e2=>e (hinj j i hj hin e2))];refine hR j _ w w' hb' (hr j hj ?_);rw[getD_set_ne true (fun e2=>e e2.symm)]at hlj;exact hlj)
    unfold wpOp;simp only[ho];split
    ·rename_i hw;rw[if_pos hw]at hk;exact .inl hk
    ·rename_i hw;rw[if_neg hw]at hk;exact hk
theorem Mu {id:Nat} {a:Act} {w:World} {l:List Oper} (n x:Nat) (f0:Nat→Value) (mk:(Nat→Value)→Act) (d:Nat→Nat) (R:Nat→Value→World→Prop) (ha:a=mk f0)
 (hm:P.follows .mixedOrders=true) (hs:Uu .any l.toArray n x=true) (hx:x<n) (hn:n<l.length) (hseq:Region.seqB .any l.toArray (l.length - n) n (Dv l.length n)=true)
 (hR:∀i u w w',Below w.heap.size w w'→R i u w→R i u w')
 (hlex:Dg .any l.toArray=true) (hinj:XS n d=true)
 (hput:∀j,j<n→∀f v,(mk f).put (some (d j)) v=mk (Bx f (d j) v))
 (hstep:Gv P l.toArray Q .any mk d w.drew R 0 (l.take n))
 (hend:∀f w',Below w.heap.size w w'→(∀j,j<n→R j (f (d j)) w')→wpList P l.toArray Q (l.drop n) (mk f) w')
 (hlate:∀f w',Below w.heap.size w w'→(∀j,j<n→j≠x→R j (f (d j)) w')→wpAny P .any l.toArray Q (l.length - n+1) (JJ l.length n x) (mk f) w'):(Code.region id l.toArray true).wp P Q a w:=by
 subst ha;refine wp_region_any hm ?_;have hb0:Below w.drew.heap.size w.drew w.drew:=Ak _ _;have inv0:HeadInv .any l.toArray n (Array.replicate l.toArray.size false):=
  ⟨by simp,fun j oj _ hl=>(by rw[getD_replicate_false]at hl;cases hl),fun t _ ht=>getD_in (by simpa using ht) (getD_replicate_false _ _)⟩
 refine NO n x mk d w.drew R hs hx (by simpa using hn) (by simpa using hseq) hR hlex ?_ hput ?_ ?_ ?_ _ _ f0 w.drew inv0 ?_ hb0 ?_
 ·intro i j hi hj e;have h1:=List.all_eq_true.1 hinj i (Cg.2 hi);have h2:=List.all_eq_true.1 h1 j (Cg.2 hj);simpa[e]using h2
 ·intro j o hj ho;have:=hstep.at (l.take n) 0 j o (by rw[List.getElem?_take,if_pos hj];simpa using ho);rwa [Nat.zero_add]at this
 ·intro f w' hb h;exact hend f w' ⟨hb.os,hb.tape,hb.output,hb.size,hb.block⟩ h
 ·intro f w' hb h;have:=hlate f w' ⟨hb.os,hb.tape,hb.output,hb.size,hb.block⟩ h;simpa using this
 ·unfold OH;simp[List.countP_replicate]
 ·intro j hj hl;have hjl:j<l.length:=by omega
  simp[hjl]at hl
theorem KW {id:Nat} {a:Act} {w:World} {l:List Oper} (n x:Nat) (f0:Nat→Value) (mk mkE:(Nat→Value)→Act) (d:Nat→Nat) (R:Nat→Value→World→Prop) (W:(Nat→Value)→World→World→Prop) (ha:a=mk f0)
 (hm:P.follows .mixedOrders=true) (hs:Uu .any l.toArray n x=true) (hx:x<n) (hn:n<l.length) (hseq:Region.seqB .any l.toArray (l.length - n) n (Dv l.length n)=true)
 (hR:∀i u w w',Below w.heap.size w w'→R i u w→R i u w')
 (hlex:Dg .any l.toArray=true) (hinj:XS n d=true)
 (hput:∀j,j<n→∀f v,(mk f).put (some (d j)) v=mk (Bx f (d j) v))
 (hstep:Gv P l.toArray Q .any mk d w.drew R 0 (l.take n))
 (htail:∀(Q:Exit→Act→World→Prop) f w',Below w.heap.size w w'→(∀j,j<n→R j (f (d j)) w')→(∀w'',W f w' w''→Q .normal (mkE f) w'')→wpList P l.toArray Q (l.drop n) (mk f) w')
 (hlate:∀(Q:Exit→Act→World→Prop) f w',Below w.heap.size w w'→(∀j,j<n→j≠x→R j (f (d j)) w')→(∀v w'',R x v w'→W (Bx f (d x) v) w' w''→Q .normal (mkE (Bx f (d x) v)) w'')→wpAny P .any l.toArray Q (l.length - n+1) (JJ l.length n x) (mk f) w')
 (hfin:∀f w' w'',Below w.heap.size w w'→(∀j,j<n→R j (f (d j)) w')→W f w' w''→Q .normal (mkE f) w''):(Code.region id l.toArray true).wp P Q a w:=by
 have hinj':∀i j,i<n→j<n→d i=d j→i=j:=fun i j hi hj e=>by
  have h1:=List.all_eq_true.1 hinj i (Cg.2 hi);have h2:=List.all_eq_true.1 h1 j (Cg.2 hj);simpa[e]using h2
 refine Mu n x f0 mk d R ha hm hs hx hn hseq hR hlex hinj hput hstep (fun f w' hb h=>htail Q f w' hb h fun w'' hw=>hfin f w' w'' hb h hw) (fun f w' hb h=>hlate Q f w' hb h fun v w'' hv hw=>hfin _ w' w'' hb (fun j hj=>?_) hw);by_cases e:j=x
 ·subst e;rw[AS];exact hv
 ·rw[AE _ _ _ _ (fun e2=>e (hinj' j x hj hx e2))];exact h j hj e
end
theorem Th(uv:Value)(u:DG)(w:World)(hu:Ma w uv u)(hR:Bi u=true)(hL:Sn u):
 Calls Tryz.prog 17 #[uv] w fun r w'=>∃vp vr vm vb rv bv,r=.returned (.tuple #[.agg #[vp,vr,vm,vb],.int .i64 0])∧BB w.heap.size w' vp vr vm vb rv bv (Dx u)∧Below w.heap.size w w':=by
 obtain⟨i0,hi0,hz0,hz1,hz2⟩:=CE Tryz.info3;obtain⟨i2,hi2,hy0,hy1,hy2⟩:=CE UT;obtain⟨i4,hi4,hv0,hv1,hv2⟩:=CE Uw;have HRT:=Aa (fun(w':World) (hb:Below w.heap.size w w')=>Lo uv u w' (hu.below hb) hL);rw[hR]at HRT;obtain⟨-,-,hil6,⟨hrl1,hrl4⟩,-,hrow6⟩:=Bz.1 hR;have HRG:Hid (∀t,t<u.regs.length→0≤u.regs.getD t 0∧u.regs.getD t 0≤6):=Aa (fun t ht=>(CU.1 (hrow6 t ht)).1);obtain⟨ia,ic,ga,gc,ca,cc,rfl,h1,h2,-⟩:=hu.var;have HI:=Aa h1;obtain⟨ga',gc',eg,h2⟩:=h2;cases eg;have HG:=Aa h2;have S0:=Aa (OT.start w #[.int .i64 u.mod,.slice ia u.init.length ic,.slice ga u.regs.length gc,.slice ca u.code.length cc] 25 #[.slice none 0 0,.slice none 0 0,.slice none 0 0,.slice none 0 0] 62);obtain⟨RGS,hRGS⟩:∃l,l=u.regs.map (fun r=>List.replicate r.toNat (0:Int)):=⟨_,rfl⟩;have HRL:Hid (RGS.length=u.regs.length):=Aa (by rw[hRGS,Fi]);have HRX:Hid (∀t,t<u.regs.length→RGS.take (t+1)=RGS.take t++[List.replicate (u.regs.getD t 0).toNat 0]):=Aa (fun t ht=>by
  have ht':t<RGS.length:=by rw[hRGS,Fi];exact ht
  rw[List.take_add_one,Bf ht']
  congr 1
  simp[hRGS,List.getD,ht])
 unfold Dx;rw[← hRGS];clear hu hR hL h1 h2 hrow6 hRGS;go_enter Tryz.func17,Tryz.ntmps17;go_wp2_with (go_at_call 22;refine(HRT.out _ S0.out.below).mono ?_;rintro e1 w1 ⟨rfl,hb1⟩;have S1:=Aa (S0.out.more hb1);clear hb1 HRT S0)
 have C0:Hid (LV w (w1.alloc (.cells #[.slice none 0 0,.slice none 0 0,.slice none 0 0,.slice none 0 0] 62)) #[.int .i64 u.mod,.slice ia u.init.length ic,.slice ga u.regs.length gc,.slice ca u.code.length cc] w1.heap.size (.slice none 0 0) (.slice none 0 0) (.slice none 0 0) (.slice none 0 0)):=Aa (by
  have hs:=(BO.1 S1.out.blk2).1;exact⟨S1.out.below.trans ((Ae w1 _).mono S1.out.below.size),Ah (Ae w1 _) S1.out.blk1,Ah (Ae w1 _) S1.out.blk2,Ar w1 _,by omega⟩)
 generalize w1.heap.size=D at*;generalize w1.alloc (.cells #[.slice none 0 0,.slice none 0 0,.slice none 0 0,.slice none 0 0] 62)=w2 at*;clear S1;go_loopg [5] u.regs.length (fun fu q wr=>∃(k:Nat) (rv:List Value) (vp vr vb:Value),k+fu=u.regs.length∧q=.int .i64 k∧Hid (LV w wr #[.int .i64 u.mod,.slice ia u.init.length ic,.slice ga u.regs.length gc,.slice ca u.code.length cc] D vp vr (.slice none 0 0) vb)∧Hid (MN (D+1) wr vp vr vb (List.replicate k 0) (RGS.take k) rv k))
 case atStart=>exact⟨0,[],_,_,_,by omega,rfl,C0,Aa (MN.nil _ _)⟩
 case round=>
  clear C0;obtain⟨k,rv,vp,vr,vb,hk,rfl,C,S⟩:=hrel;have a2:=Ab C.out.bu 2 (.slice ga u.regs.length gc) rfl;by_cases hlt:k<u.regs.length
  ·have z1:(k:Int)<(u.regs.length:Int):=by omega
   have hol:k≤1000:=by omega
   obtain⟨bg,og,rfl,xg⟩:=HG.out k hlt;obtain⟨hn0,hn6⟩:=HRG.out k hlt;obtain⟨n,hn⟩:∃n:Nat,u.regs.getD k 0=(n:Int):=⟨(u.regs.getD k 0).toNat,by omega⟩;have HTK:=Aa (HRX.out k hlt);have HLK:Hid ((RGS.take k).length=k):=Aa (by rw[List.length_take,HRL.out];omega);rw[hn,BT]at HTK;rw[hn]at xg hn0 hn6;clear HRX HRG HG hn;obtain⟨vpa,vpc,rfl⟩:=Bp S.out.pc;obtain⟨vra,vrc,hvr⟩:=Bp S.out.regs.out;rw[HLK.out]at hvr;subst hvr;obtain⟨vba,vbc,rfl⟩:=Bp S.out.buf;rw[List.length_replicate]at S C;have d0:=Ab C.out.bd 0 _ rfl;have f0:=Ag C.out.bd 0;go_wp2_with (at_builtin;refine wpList_append_lies (wr.alloc (.cells #[.int .i64 0] 3)) rfl (.tmp 19) (.tmp 20) 22 rfl (D+1) 3 i0 (.int .i64 0) 1 8 Tryz.underlying22 hi0 hz0 hz1 hz2 rfl (by decide) (.slice vpa k vpc) k (List.replicate k (.int .i64 0)) rfl (World.ownsRow.alloc (by have:=S.out.pc;unfold AW at this;rwa [List.length_replicate,List.map_replicate]at this) _) ⟨wr.heap.size,0,none⟩ 1 1 [.int .i64 0] rfl rfl (World.news_of_block (Ar _ _)) (by simp[Value.oneCell']) (by omega) (by unfold maxLen;omega) (by omega) (by have:=C.out.size;simp;omega) (wr.heap.size+1) (by simp) ?_;intro g3 cap3 w3 hown3 hgr3 hor3 hlt3;have T3:=Aa (S.out.pushP (v':=.slice (some ⟨g3,0,none⟩) (k+1) cap3) hgr3 (by rw[List.length_replicate,List.map_replicate];exact hown3) (Cw hor3 (by omega)));have C3:=Aa ((C.out.alloc (.cells #[.int .i64 0] 3)).grown hgr3 (fun q hq=>(World.ownsRow.lt S.out.pc q hq).1));clear hown3 hgr3 hor3 hlt3;clear d0 f0;have d0:=Ab C3.out.bd 0 _ rfl;have f0:=Ag C3.out.bd 0)
   have C4:=Aa (C3.out.put0 (.slice (some ⟨g3,0,none⟩) (k+1) cap3));have T4:=Aa (T3.out.setlow (b:=D) (i:=0) (by omega) (.slice (some ⟨g3,0,none⟩) (k+1) cap3));clear d0 f0 C3 T3 C S a2;generalize w3.setCell ⟨D,0,none⟩ (.slice (some ⟨g3,0,none⟩) (k+1) cap3)=w4 at*;have d1:=Ab C4.out.bd 1 _ rfl;have a2:=Ab C4.out.bu 2 _ rfl;have xg:=Af C4.out.low xg;have hmk:=run_make_row' (P:=Tryz.prog) 22 3 (.int .i64 0) 8 Tryz.underlying22 Tryz.info3 rfl .i64 .i64 n (by omega) (by omega);refine BH 9 (fun q=>match q with | 23=>u23 | 24=>u24 | 25=>u25 | 26=>u26 | 27=>u27 | 28=>u28 | 29=>u29 | 30=>u30 | 31=>u31 | _=>undef)
    (fun f=>{tmps:=#[.agg #[.int .i64 u.mod,.slice ia u.init.length ic,.slice (some ⟨bg,og,none⟩) u.regs.length gc,.slice ca u.code.length cc],.pointer (some ⟨w.heap.size,0,none⟩),.pointer (some ⟨w.heap.size+1,0,none⟩),.int .i64 0,.pointer (some ⟨D,0,none⟩),.int .i64 (k:Nat),.agg #[.int .i64 u.mod,.slice ia u.init.length ic,.slice (some ⟨bg,og,none⟩) u.regs.length gc,.slice ca u.code.length cc],.bool true,.bool false,undef,.agg #[.slice none 0 0,.slice none 0 0,.slice none 0 0,.slice none 0 0],.int .i64 (k:Nat),.pointer (some ⟨w.heap.size,2,none⟩),.slice (some ⟨bg,og,none⟩) u.regs.length gc,.int .i64 (u.regs.length:Nat),.bool true,u16,u17,.pointer (some ⟨D,0,none⟩),.slice vpa k vpc,.slice (some ⟨wr.heap.size,0,none⟩) 1 1,.slice (some ⟨g3,0,none⟩) (k+1) cap3,.pointer (some ⟨D,0,none⟩),f 23,f 24,f 25,f 26,f 27,f 28,f 29,f 30,f 31,u32,u33,u34,u35,u36,u37,u38,undef,undef,undef,undef,undef,undef,undef],defers:=[]}) (fun j=>j+23)
    (Gs w4 n [(.pointer (some ⟨D,1,none⟩)),(.slice vra k vrc),(.pointer (some ⟨w.heap.size,2,none⟩)),(.slice (some ⟨bg,og,none⟩) u.regs.length gc),(.int .i64 (k:Nat)),(.pointer (some ⟨bg,og+k,none⟩)),(.int .i64 (n:Nat))])
    rfl (by kernel_rfl) (by kernel_rfl) (by kernel_rfl) (by decide) (by kernel_rfl) (fun i u w w' hb h=>QR hb h) (by kernel_rfl) (by kernel_rfl) ?_ ?_ ?_
   ·intro j hj f v;rcases j with _ | _ | _ | _ | _ | _ | _ | _ | _ | j
    all_goals first | rfl | omega | (simp at hj;omega)
   ·refine⟨?_,?_,?_,?_,?_,?_,?_,?_,?_,trivial⟩
    ·intro f w' hb hd K hK;dsimp only;go_simp;exact hK (.pointer (some ⟨D,1,none⟩)) w' (Ak _ _) rfl
    ·intro f w' hb hd K hK;have h0:f 23=(.pointer (some ⟨D,1,none⟩)):=hd 0 (by kernel_rfl);have e0:=Af hb d1;dsimp only;go_simp;have q:=hK (.slice vra k vrc) w' (Ak _ _) rfl;simp only[h0]at q;exact q
    ·intro f w' hb hd K hK;dsimp only;go_simp;exact hK (.pointer (some ⟨w.heap.size,2,none⟩)) w' (Ak _ _) rfl
    ·intro f w' hb hd K hK;have h2:f 25=(.pointer (some ⟨w.heap.size,2,none⟩)):=hd 2 (by kernel_rfl);have e0:=Af hb a2;dsimp only;go_simp;have q:=hK (.slice (some ⟨bg,og,none⟩) u.regs.length gc) w' (Ak _ _) rfl;simp only[h2]at q;exact q
    ·intro f w' hb hd K hK;dsimp only;go_simp;exact hK (.int .i64 (k:Nat)) w' (Ak _ _) rfl
    ·intro f w' hb hd K hK;have h3:f 26=(.slice (some ⟨bg,og,none⟩) u.regs.length gc):=hd 3 (by kernel_rfl);have h4:f 27=(.int .i64 (k:Nat)):=hd 4 (by kernel_rfl);dsimp only;go_simp;have q:=hK (.pointer (some ⟨bg,og+k,none⟩)) w' (Ak _ _) rfl;simp only[h3,h4]at q;exact q
    ·intro f w' hb hd K hK;have h5:f 28=(.pointer (some ⟨bg,og+k,none⟩)):=hd 5 (by kernel_rfl);have e0:=Af hb xg;dsimp only;go_simp;have q:=hK (.int .i64 (n:Nat)) w' (Ak _ _) rfl;simp only[h5]at q;exact q
    ·intro f w' hb hd K hK;have h6:f 29=(.int .i64 (n:Nat)):=hd 6 (by kernel_rfl);have hw1:w4.heap.size≤w'.heap.size:=hb.size;dsimp only;go_simp;have q:=hK _ _ (Ae w' _) (XC (vs:=[(.pointer (some ⟨D,1,none⟩)),(.slice vra k vrc),(.pointer (some ⟨w.heap.size,2,none⟩)),(.slice (some ⟨bg,og,none⟩) u.regs.length gc),(.int .i64 (k:Nat)),(.pointer (some ⟨bg,og+k,none⟩)),(.int .i64 (n:Nat))]) hw1 (by omega));simp only[h6]at q;exact q
    ·intro f w' hb hd K hK;obtain⟨g7,h7,ho7⟩:∃g,f 30=.slice (some ⟨g,0,none⟩) n n∧AW w4.heap.size w' (f 30) (List.replicate n 0):=hd 7 (by kernel_rfl);rw[h7]at ho7;dsimp only;go_simp;have q:=hK _ _ (Ae w' _) (Yc (vs:=[(.pointer (some ⟨D,1,none⟩)),(.slice vra k vrc),(.pointer (some ⟨w.heap.size,2,none⟩)),(.slice (some ⟨bg,og,none⟩) u.regs.length gc),(.int .i64 (k:Nat)),(.pointer (some ⟨bg,og+k,none⟩)),(.int .i64 (n:Nat))]) ho7);simp only[h7]at q;exact q
   intro f w5 hb5 hr;have h24:f 24=.slice vra k vrc:=hr 1 (by decide);obtain⟨g6,b6,h31,hbk,hro⟩:∃g b,f 31=.slice (some ⟨b,0,none⟩) 1 1∧w5.heap[b]?=some (.cells #[.slice (some ⟨g,0,none⟩) n n] 22 (0,0))∧AW w4.heap.size w5 (.slice (some ⟨g,0,none⟩) n n) (List.replicate n 0):=hr 8 (by decide);clear hr hmk;simp only[h24,h31,List.drop_succ_cons,List.drop_zero];generalize f 23=x23;generalize f 25=x25;generalize f 26=x26;generalize f 27=x27;generalize f 28=x28;generalize f 29=x29;generalize f 30=x30;have HLT:=Aa T4.out.lts;have HRN:Hid (∀q,(Value.slice (some ⟨g6,0,none⟩) n n).ownBlock=some q→w4.heap.size≤q):=Aa (fun q e=>(World.ownsRow.lt hro q e).1);have HDW:Hid (D+1≤w4.heap.size):=Aa C4.out.size;have HRO:=Aa (CI hro HDW.out);have C5:=Aa (C4.out.more hb5);have T5:=Aa (T4.out.more hb5);have HBK:=Aa hbk;clear hro hbk C4 T4 d1 a2 xg hb5;have d1:=Ab C5.out.bd 1 _ rfl;have f1:=Ag C5.out.bd 1;go_wp2_with (first
    | (at_builtin;refine wpList_append_lies ((w7.setCell ⟨D,1,none⟩ (.slice (some ⟨g7,0,none⟩) (k+1) cap7)).alloc (.cells #[.slice none 0 0] 102)) rfl (.tmp 35) (.tmp 36) 60 rfl (D+1) 102 i4 (.slice none 0 0) 1 24 Tryz.underlying60 hi4 hv0 hv1 hv2 rfl (by decide) (.slice vba k vbc) k (List.replicate k KD) rfl (World.ownsRow.alloc T8.out.buf _) ⟨w7.heap.size,0,none⟩ 1 1 [.slice none 0 0] rfl rfl (World.news_of_block (by rw[← HS8.out];exact Ar _ _)) (by simp[Value.oneCell']) (by omega) (by unfold maxLen;omega) (by omega) (by have:=C8.out.size;simp only[Az];omega) ((w7.setCell ⟨D,1,none⟩ (.slice (some ⟨g7,0,none⟩) (k+1) cap7)).heap.size+1) (by simp) ?_;intro g9 cap9 w9 hown9 hgr9 hor9 hlt9;have T9:=Aa (T8.out.pushB (v':=.slice (some ⟨g9,0,none⟩) (k+1) cap9) hgr9 hown9 (Cw hor9 (by omega)));have C9:=Aa ((C8.out.alloc (.cells #[.slice none 0 0] 102)).grown hgr9 (fun q hq=>(World.ownsRow.lt T8.out.buf q hq).1));clear hown9 hgr9 hor9 hlt9 d3;have d3:=Ab C9.out.bd 3 _ rfl;have f3:=Ag C9.out.bd 3)
    | (at_builtin;refine wpList_append_lies w5 rfl (.tmp 24) (.tmp 31) 59 rfl (D+1) 22 i2 (.slice none 0 0) 1 24 Tryz.underlying59 hi2 hy0 hy1 hy2 rfl (by decide) (.slice vra k vrc) k rv rfl (by have:=T5.out.regs.out;rwa [HLK.out]at this) ⟨b6,0,none⟩ 1 1 [.slice (some ⟨g6,0,none⟩) n n] rfl rfl (World.news_of_block HBK.out) (by simp[Value.oneCell']) (by omega) (by unfold maxLen;omega) (by omega) (by have:=C5.out.size;omega) w5.heap.size rfl ?_;intro g7 cap7 w7 hown7 hgr7 hor7 hlt7;have T7:=Aa (T5.out.pushR HLT.out HRO.out HRN.out hgr7 (by rw[HLK.out];exact hown7) (Cw (n:=k+1) (cap:=cap7) hor7 (by omega)));have C7:=Aa (C5.out.grown hgr7 (fun q hq=>(World.ownsRow.lt T5.out.regs.out q hq).1));clear hown7 hgr7 hor7 hlt7 d1 f1;have d1:=Ab C7.out.bd 1 _ rfl;have f1:=Ag C7.out.bd 1;have C8:=Aa (C7.out.put1 (.slice (some ⟨g7,0,none⟩) (k+1) cap7));have T8:=Aa (T7.out.setlow (b:=D) (i:=1) (by omega) (.slice (some ⟨g7,0,none⟩) (k+1) cap7));have d3:=Ab C8.out.bd 3 (.slice vba k vbc) rfl;have HS8:Hid ((w7.setCell ⟨D,1,none⟩ (.slice (some ⟨g7,0,none⟩) (k+1) cap7)).heap.size=w7.heap.size):=Aa (by simp)))
   have CF:=Aa (C9.out.put3 (.slice (some ⟨g9,0,none⟩) (k+1) cap9));have TF:=T9.out.setlow (b:=D) (i:=3) (by omega) (.slice (some ⟨g9,0,none⟩) (k+1) cap9);rw[← HTK.out,← List.replicate_succ']at TF;have TF:=Aa TF;go_roundg (u.regs.length - (k+1))
   case measure=>omega
   case rel=>exact⟨k+1,_,_,_,_,by omega,by simp,CF,TF⟩
  ·obtain rfl:k=u.regs.length:=by omega
   have S9:=Aa (show MN (D+1) wr vp vr vb (List.replicate u.regs.length 0) RGS rv u.regs.length by have:=S.out;rwa [← HRL.out,Ez,HRL.out]at this);have HML:=Aa ((HI.out.below C.out.low).src);have a1:=Ab C.out.bu 1 _ rfl;have d2:=Ab C.out.bd 2 _ rfl;have f2:=Ag C.out.bd 2;obtain⟨s0,t0,hs0⟩:=Bp S9.out.pc;rw[List.length_replicate]at hs0;subst hs0;obtain⟨s1,t1,rfl⟩:=Bp S9.out.regs.out;obtain⟨s3,t3,rfl⟩:=Bp S9.out.buf;clear S HRX HRG HG;go_wp2_with (at_builtin;refine Hi rfl (.tmp 40) (.tmp 42) rfl Tryz.underlying22 hi0 hz0 hz1 hz2 rfl (by decide) (D+1) rfl rfl HML.out (by omega) (by omega) C.out.size ?_;intro ad6 cap6 w6 hown6 hgr6 hor6;have OC6:=Aa (S9.out.conf hgr6 (vm:=.slice ad6 u.init.length cap6) hown6 (fun q h=>Nat.le_of_eq (hor6 q h).symm));have C6:=Aa (C.out.grown hgr6 (fun k hk=>by cases hk));clear hown6 hgr6 hor6 a1 a2 d2 f2;have d2:=Ab C6.out.bd 2 _ rfl;have f2:=Ag C6.out.bd 2;have C7:=Aa (C6.out.put2 (.slice ad6 u.init.length cap6));have OC7:=Aa (OC6.out.setlow (b:=D) (i:=2) (by omega) (.slice ad6 u.init.length cap6));obtain⟨d0,d1,d4,d3⟩:=BX C7.out.bd;obtain⟨r0,r1,r2,r3⟩:=BX C7.out.br;obtain⟨g0,g1,g2,g3⟩:=Nx C7.out.br)
   obtain⟨OF,BF,k0,k1,k2,k3⟩:=VL C7.out OC7.out;refine Bd (v:=.tuple #[.agg #[.slice s0 u.regs.length t0,.slice s1 RGS.length t1,.slice ad6 u.init.length cap6,.slice s3 u.regs.length t3],.int .i64 0]) (by simp[results,Tryz.results17,go_sem,k0,k1,k2,k3]) rfl ?_;first
    | exact⟨_,_,_,_,rfl,⟨_,_,OF⟩,BF⟩
    | exact⟨_,_,_,_,_,_,rfl,OF,BF⟩
end Go.Proofs.YtlhpjfnfemebdaaGreat
