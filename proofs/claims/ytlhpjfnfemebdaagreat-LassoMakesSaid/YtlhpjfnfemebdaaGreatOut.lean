/-
  edges.Out, edges.All.
-/
import Derived.Test.YtlhpjfnfemebdaaGreatEach
import Derived.Test.YtlhpjfnfemebdaaGreatJBase
import Derived.Deep.RegionWith
namespace Go.Proofs.YtlhpjfnfemebdaaGreat
open Go.RowKit
theorem QO {w w':World} {g:Gr} {B:Nat} {sa aa ta:Option Addr} {sc ac tc:Nat} (h:Ao w (.agg #[.slice sa g.S.length sc,.slice aa g.A.length ac,.slice ta g.T.length tc]) g) (hb:Below w.heap.size w w')
 (hB:w'.heap[B]?=some (.cells #[.slice sa g.S.length sc,.slice aa g.A.length ac,.slice ta g.T.length tc] 32 (0,0))):WV w' B sa aa ta sc ac tc g:=by
 obtain⟨⟨s,a,t,e,⟨sa',sc',e1,h1⟩,⟨aa',ac',e2,h2⟩,⟨ta',tc',e3,h3⟩⟩,h4,h5,h6⟩:=h;cases e;cases e1;cases e2;cases e3;refine⟨Ab hB 0 _ rfl,Ab hB 1 _ rfl,Ab hB 2 _ rfl,?_,?_,?_⟩
 ·intro j hj;obtain⟨b,off,e,hc⟩:=h1 j hj;exact⟨b,off,e,Af hb hc⟩
 ·intro j hj;obtain⟨b,off,e,hc⟩:=h2 j hj;exact⟨b,off,e,Af hb hc⟩
 ·intro j hj;obtain⟨b,off,e,hc⟩:=h3 j hj;exact⟨b,off,e,Af hb hc⟩
theorem Yk (N:Nat) (hE:Enters Tryz.prog N)
 (hcl:∀(W:World) (lv:Nat) (l:List Ed) (x y z:Int) (w:World),lv<W.heap.size→QU W lv l w→l.length<1000000→
  Calls Tryz.prog N #[.agg #[.int .i64 x,.int .i64 y,.int .i64 z],.pointer (some ⟨lv,0,none⟩)] w fun e w'=>e=.returned (.tuple #[])∧QU W lv (l++[(x,y,z)]) w')
 {g:Gr} {v:Value} {w w2:World} {lv:Nat} (hg:Ao w v g) (hR:Rt g) (hb:Below w.heap.size w w2) (hlv:w.heap.size≤lv) (hl2:w2.heap[lv]?=some (.cells #[.slice none 0 0] 55 (0,0)))
 (a m:Nat) (b:Int) (hab:b=(a:Int)+(m:Int)) (ham:a+m<g.S.length):
 Calls Tryz.prog 104 #[v,.int .i64 (a:Nat),.int .i64 b,.func (.func N) #[] #[.pointer (some ⟨lv,0,none⟩)]] w2 fun e w'=>e=.returned (.tuple #[])∧
  ∃v',w'.heap[lv]?=some (.cells #[v'] 55 (0,0))∧Ax w' v' (Du g a m)∧Below w.heap.size w w':=by
 have h4:=hg.sS;have h6:=hg.sT;obtain⟨sa,aa,ta,sc,ac,tc,rfl,-⟩:=hg.var;have hlt:lv<w2.heap.size:=(BO.1 hl2).1;have hbx:=Ae w2 (.cells #[.slice sa g.S.length sc,.slice aa g.A.length ac,.slice ta g.T.length tc] 32);have hBel:∀(F:Nat→Prop) w',(∀k,F k→w.heap.size≤k)→Bn F (w2.alloc (.cells #[.slice sa g.S.length sc,.slice aa g.A.length ac,.slice ta g.T.length tc] 32)) w'→Below w.heap.size w w':=fun F w' hF hf=>
  (hb.trans (hbx.mono hb.size)).trans (hf.below hF (by have:=hb.size;simp;omega))
 refine(QD hR h4 h6 N hE _ a m b hab ham (fun pre w'=>QU (w2.alloc (.cells #[.slice sa g.S.length sc,.slice aa g.A.length ac,.slice ta g.T.length tc] 32)) lv pre w') ?_ ?_ ?_ ?_).mono ?_
 ·intro pre w' h;refine QO hg (hBel _ w' (fun k hk=>by subst hk;exact hlv) h.frm) ?_;exact h.frm.heap (Ar w2 _) (by show w2.heap.size≠lv;omega)
 ·exact⟨Bn.refl _ _,.slice none 0 0,Ah hbx hl2,⟨rfl,.inl ⟨rfl,rfl⟩⟩⟩
 ·exact fun pre w' h=>h.drew
 ·intro pre i k w' h _ _ _ _ hp;have e:#[Value.agg #[.int .i64 (i:Nat),.int .i64 (g.A.getD k 0),.int .i64 (g.T.getD k 0)]]++#[Value.pointer (some ⟨lv,0,none⟩)]=#[Value.agg #[.int .i64 (i:Nat),.int .i64 (g.A.getD k 0),.int .i64 (g.T.getD k 0)],Value.pointer (some ⟨lv,0,none⟩)]:=by simp
  rw[e];exact hcl _ lv pre _ _ _ w' (by simp;omega) h (by omega)
 ·rintro e w' ⟨rfl,h⟩;obtain⟨hf,v',h1,h2⟩:=h;exact⟨rfl,v',h1,BC h2,hBel _ w' (fun k hk=>by subst hk;exact hlv) hf⟩
def AR(g:Gr)(i:Int):List Ed:=if Bj g=true∧0≤i∧i+1<g.S.length then Lw g i.toNat else []
def Jg(w:World)(l:List Ed)(e:Ending)(w':World):Prop:=∃v,e=.returned v∧Ax w' v l∧Below w.heap.size w w'
theorem QY(g:Gr)(i:Nat):Du g i 1=Lw g i:=by simp[Du]
set_option maxRecDepth 100000 in
set_option maxHeartbeats 4000000 in
theorem NT(v:Value)(g:Gr)(i:Int)(w:World)(h:Ao w v g):Calls Tryz.prog 83 #[v,.int .i64 i] w (Jg w (AR g i)):=by
 have h4:=h.sS;have hE:Enters Tryz.prog 105:=enters_of Tryz.func105 (by kernel_rfl) rfl;obtain⟨sa,aa,ta,sc,ac,tc,rfl,-⟩:=h.var;have hb:=Ae w (.cells #[.slice sa g.S.length sc,.slice aa g.A.length ac,.slice ta g.T.length tc] 32);have HN:=Aa (Hb _ g _ (h.below hb));by_cases h0:i<0
 ·have e:AR g i=[]:=by unfold AR;rw[if_neg (by omega)]
  rw[e];have HB:=Aa hb;clear h hE hb;go_enter Tryz.func83,Tryz.ntmps83;go_wp2_with fail
  go_ret;exact⟨_,rfl,Eh _,HB.out⟩
 ·by_cases h1:i<(Ad g:Int)
  ·have hR:Rt g:=by
    cases hh:Bj g
    ·rw[Cp hh]at h1;omega
    ·exact(Aq g).1 hh
   have hn:=Ap hR;obtain⟨k,rfl⟩:∃k:Nat,i=(k:Int):=⟨i.toNat,by omega⟩;have e:AR g k=Du g k 1:=by unfold AR;rw[if_pos ⟨(Aq g).2 hR,by omega,by omega⟩,QY];simp
   rw[e];clear e;have HB:=Aa hb;have HH:=Aa h;have HR:=Aa hR;have HE:=Aa hE;have hk:k+1<g.S.length:=by omega
   clear h hE hb hR hn;go_enter Tryz.func83,Tryz.ntmps83;go_wp2_with (first
    | (go_at_call 97;refine HN.out.mono ?_;rintro e w1 ⟨rfl,hb1⟩;have d0:=Af (Ae w1 (.cells #[.slice none 0 0] 55)) (Af hb1 (Ab (Ar w _) 0 _ rfl));have d1:=Af (Ae w1 (.cells #[.slice none 0 0] 55)) (Af hb1 (Ab (Ar w _) 1 _ rfl));have d2:=Af (Ae w1 (.cells #[.slice none 0 0] 55)) (Af hb1 (Ab (Ar w _) 2 _ rfl));have d3:=Af hb1 (Ab (Ar w _) 0 _ rfl);have d4:=Af hb1 (Ab (Ar w _) 1 _ rfl);have d5:=Af hb1 (Ab (Ar w _) 2 _ rfl);have hs1:=hb1.size;have HB1:=Aa (HB.out.trans (hb1.mono HB.out.size));clear hb1)
    | (go_at_call 104;refine(Yk 105 HE.out Sb HH.out HR.out (HB1.out.trans ((Ae w1 (.cells #[.slice none 0 0] 55)).mono HB1.out.size)) HB1.out.size (Ar w1 _) k 1 ((k:Int)+1) rfl hk).mono ?_;rintro e w2 ⟨rfl,v',q1,q2,q3⟩;have c2:=Ab q1 0 _ rfl;have Q:=Aa (And.intro q2 q3);clear q1 q2 q3))
   go_ret;exact⟨_,rfl,Q.out⟩
  ·have e:AR g i=[]:=by
    unfold AR;rw[if_neg];rintro⟨e1,e2,e3⟩;rw[Ap ((Aq g).1 e1)]at h1;omega
   rw[e];have HB:=Aa hb;clear h hE hb e;go_enter Tryz.func83,Tryz.ntmps83;go_wp2_with (first
    | (go_at_call 97;refine HN.out.mono ?_;rintro e w1 ⟨rfl,hb1⟩;have HB1:=Aa (HB.out.trans (hb1.mono HB.out.size));clear hb1))
   go_ret;exact⟨_,rfl,Eh _,HB1.out⟩
end Go.Proofs.YtlhpjfnfemebdaaGreat
