/- What holds of a unit's space; spinnakerlaw30.known, plain. -/
import Derived.Test.YtlhpjfnfemebdaaGreatAllB
import Derived.Test.YtlhpjfnfemebdaaGreatJCovE
import Derived.Test.YtlhpjfnfemebdaaGreatJMachP
import Derived.Test.YtlhpjfnfemebdaaGreatFairA
namespace Go.Proofs.YtlhpjfnfemebdaaGreat
open Go.RowKit
structure ZF(u:DG)(model room:Int)(s:Sp):Prop where
 right:Bi u=true
 pos:0<s.confs.length
 le:s.confs.length≤500
 ok:AY (s.confs.length:Int) s.ed=true
 dp:Dp s.confs.length s.ed (Mm s.par)
 cf:∀j,j<s.confs.length→CN u 1000 (s.confs.getD j JQ)
 ag:∀e∈s.ed,e.2.1<(Fx u model:Int)
 edl:s.ed.length≤1000000
 par:∀j,1≤j→j<s.confs.length→0≤s.par.getD j 0∧s.par.getD j 0<(j:Int)
 lenP:s.par.length=s.confs.length
 lenA:s.ag.length=s.confs.length
 edm:s.ed.map (fun e=>(e.1,e.2.1))=Et u model room s s.confs.length
theorem Vf{u:DG}{model room budget:Int}{s:Sp}(h:Ja u model room budget=some s)(hb:budget≤500):ZF u model room s:=by
 obtain⟨hR,-,-,h1,ha⟩:=Md h;have hI:=UL hR h1 ha;have hle:=hI.le;have hed:s.ed.map (fun e=>(e.1,e.2.1))=Et u model room s s.confs.length:=by
  have:=hI.edm;rwa [List.take_zero,List.map_nil,List.append_nil]at this
 have hmem:∀e∈s.ed,∃j:Nat,e.1=(j:Int)∧j<s.confs.length∧∃a:Nat,e.2.1=(a:Int)∧a<Fx u model:=fun e he=>by
  have hm:(e.1,e.2.1)∈s.ed.map (fun e=>(e.1,e.2.1)):=DJ.2 ⟨e,he,rfl⟩;rw[hed]at hm;obtain⟨j,hj,h2⟩:=List.mem_flatMap.1 hm;obtain⟨a,ha,e2⟩:=DJ.1 h2;obtain⟨n,hn,hna,-⟩:=Fj.1 ha;have e3:=(Prod.mk.inj e2).1;have e4:=(Prod.mk.inj e2).2;exact⟨j,e3.symm,Cg.1 hj,n,by rw[← e4,hn],hna⟩
 refine⟨hR,hI.pos,by omega,?_,hI.dp,fun j hj=>(hI.ok j hj).more (by omega),fun e he=>?_,?_,fun j a b=>let ⟨c,d,_⟩:=hI.parI j a b;⟨c,d⟩,hI.lenP,hI.lenA,hed⟩
 ·unfold AY;rw[Ci,EU,List.all_eq_true];refine⟨by omega,fun e he=>?_⟩;obtain⟨j,e1,hj,a,e2,-⟩:=hmem e he;have:=hI.edt e he;unfold Mg;rw[EU];omega
 ·obtain⟨j,-,-,a,e2,h2⟩:=hmem e he;omega
 ·have h2:=congrArg List.length hed;rw[Fi]at h2;have h3:=Jq (model:=model) (room:=room) hR hI.row;omega
section
variable {u:DG} {model room:Int} {s:Sp}
theorem ZF.edge(h:ZF u model room s)(k a:Nat):(∃e∈Av (Ai (s.confs.length:Int) s.ed),e.1=(k:Int)∧e.2.1=(a:Int))↔k<s.confs.length∧a<Fx u model∧QT u (s.confs.getD k JQ) model room a=true:=by
 obtain⟨-,-,hm,-⟩:=Hh h.ok;have h1:(∃e∈Av (Ai (s.confs.length:Int) s.ed),e.1=(k:Int)∧e.2.1=(a:Int))↔((k:Int),(a:Int))∈s.ed.map (fun e=>(e.1,e.2.1)):=by
  rw[DJ];constructor
  ·rintro⟨e,he,e1,e2⟩;exact⟨e,(hm e).1 he,by rw[e1,e2]⟩
  ·rintro⟨e,he,e1⟩;exact⟨e,(hm e).2 he,(Prod.mk.inj e1).1,(Prod.mk.inj e1).2⟩
 rw[h1,h.edm];unfold Et;rw[List.mem_flatMap];constructor
 ·rintro⟨j,hj,h2⟩;obtain⟨x,hx,e1⟩:=DJ.1 h2;obtain⟨e2,e3⟩:=Prod.mk.inj e1;obtain rfl:j=k:=by omega
  obtain⟨n,hn,hna,hen⟩:=Fj.1 hx;obtain rfl:n=a:=by omega
  exact⟨Cg.1 hj,hna,hen⟩
 ·rintro⟨hk,ha,hen⟩;exact⟨k,Cg.2 hk,DJ.2 ⟨(a:Int),Fj.2 ⟨a,rfl,ha,hen⟩,rfl⟩⟩
end
theorem Ns(u:DG)(c:Cf)(model room:Int):∀k,(Jx u c model room k).Nodup
 | 0=>by rw[Jx];exact List.nodup_nil
 | k+1=>by
  rw[Jx];split
  ·refine List.nodup_append.2 ⟨Ns u c model room k,by simp,fun a ha b hb e=>?_⟩;obtain⟨n,hn,hnk,-⟩:=Fj.1 ha;rw[Ds]at hb;omega
  ·exact Ns u c model room k
theorem PM(u:DG)(model room:Int)(s:Sp):∀i,(Et u model room s i).Nodup
 | 0=>by unfold Et;simp
 | i+1=>by
  have e:Et u model room s (i+1)=Et u model room s i++(DT u model room s i).map (fun a=>((i:Int),a)):=by
   unfold Et;rw[List.range_succ,List.flatMap_append];simp
  rw[e];refine List.nodup_append.2 ⟨PM u model room s i,?_,fun a ha b hb q=>?_⟩
  ·exact List.Pairwise.map _ (fun a b hab q=>hab (by simpa using q)) (Ns u _ model room _)
  ·obtain⟨j,hj,h1⟩:=List.mem_flatMap.1 ha;obtain⟨x,-,rfl⟩:=DJ.1 h1;obtain⟨y,-,rfl⟩:=DJ.1 hb;have:=Cg.1 hj;simp only[Prod.mk.injEq]at q;omega
theorem Nj{α β:Type}{f:α→β}:∀{l:List α},(l.map f).Nodup→∀a∈l,∀b∈l,f a=f b→a=b
 | [],_,a,ha,_,_,_=>absurd ha (by simp)
 | x::l,h,a,ha,b,hb,e=>by
  rw[List.map_cons,List.nodup_cons]at h;rcases Br.1 ha with rfl | ha'
  ·rcases Br.1 hb with rfl | hb'
   ·rfl
   ·exact absurd (DJ.2 ⟨b,hb',e.symm⟩) h.1
  ·rcases Br.1 hb with rfl | hb'
   ·exact absurd (DJ.2 ⟨a,ha',e⟩) h.1
   ·exact Nj h.2 a ha' b hb' e
theorem ZF.once{u:DG}{model room:Int}{s:Sp}(h:ZF u model room s):∀e∈Av (Ai (s.confs.length:Int) s.ed),∀f∈Av (Ai (s.confs.length:Int) s.ed),e.1=f.1→e.2.1=f.2.1→e=f:=fun e he f hf h1 h2=>by
 obtain⟨-,-,hm,-⟩:=Hh h.ok;have hn:(s.ed.map (fun e=>(e.1,e.2.1))).Nodup:=by rw[h.edm];exact PM u model room s _
 exact Nj hn e ((hm e).1 he) f ((hm f).1 hf) (by simp only[h1,h2])
theorem ZF.table{u:DG}{model room:Int}{s:Sp}(h:ZF u model room s):RT (Ai (s.confs.length:Int) s.ed) (NJ u s model room) (Fx u model:Nat):=by
 obtain⟨hR,hN,hm,-⟩:=Hh h.ok;have hag:=Ix h.right model;have hlen:(NJ u s model room).length=s.confs.length:=MF _ _ _;refine⟨hR,by omega,by omega,by rw[hlen,hN],fun i hi=>?_,fun e he=>?_⟩
 ·rw[hlen]at hi;unfold NJ Yh;rw[BW _ _ _ _ hi,AJ]
 ·have h2:(e.1,e.2.1)∈s.ed.map (fun e=>(e.1,e.2.1)):=DJ.2 ⟨e,(hm e).1 he,rfl⟩;rw[h.edm]at h2;obtain⟨j,hj,h3⟩:=List.mem_flatMap.1 h2;obtain⟨a,ha,e2⟩:=DJ.1 h3;obtain⟨n,hn,-,-⟩:=Fj.1 ha;simp only[Prod.mk.injEq]at e2;have h4:=(h.edge j n).1 ⟨e,he,e2.1.symm,by rw[← e2.2,hn]⟩;have e5:e.2.1=(n:Int):=by rw[← e2.2,hn]
  rw[e5,← e2.1];refine⟨by omega,?_⟩;rw[BT,BT];unfold NJ Yh;rw[BW _ _ _ _ h4.1,BW _ _ _ _ h4.2.1];exact h4.2.2
theorem fK{u:DG}{model room budget:Int}{s:Sp}(h:Ja u model room budget=some s):∀j,1≤j→j<s.confs.length→(s.par.getD j 0,s.ag.getD j 0,(j:Int))∈s.ed:=fun j h1 h2=>by
 obtain⟨hR,-,-,h3,ha⟩:=Md h;have hI:=UL hR h3 ha;obtain⟨e,he,e1,e2,e3⟩:=hI.parE j h1 h2;have:e=(s.par.getD j 0,s.ag.getD j 0,(j:Int)):=by rw[← e1,← e2,← e3]
 rwa [← this]
end Go.Proofs.YtlhpjfnfemebdaaGreat
