/-
  scc.Parts: the walk.
-/
import Derived.Test.YtlhpjfnfemebdaaGreatRun
import Derived.Test.YtlhpjfnfemebdaaGreatJPartsMem
import Derived.Deep.OwnRows
import Derived.Deep.DeepCutAuto
set_option linter.unusedSimpArgs false
namespace Go.Proofs.YtlhpjfnfemebdaaGreat
open Go.RowKit
set_option maxRecDepth 100000 in
set_option maxHeartbeats 8000000 in
theorem NZ (w:World) (g:Gr) (G:TG) (v:Value) {sa aa ta:Option Addr} {sc ac tc:Nat} (hv:v=.agg #[.slice sa g.S.length sc,.slice aa g.A.length ac,.slice ta g.T.length tc]) (h:Ao w v g) (hG:G.n=Ad g)
 (hC:0<G.n→dZ w G sa ta g.S.length g.T.length) (hn:G.n≤100000):
 Calls Tryz.prog 99 #[v] w fun e w'=>∃(s:TS) (b:Nat),AX G (fun _=>-1) s∧s.calls=[]∧(∀x,x<G.n→0≤s.num x)∧e=.returned (GJ b G.n)∧w'.heap[b]?=some (.cells (ints (BV G.n (Lz s.part G.n))) 3 (0,0))∧Below w.heap.size w w':=by
 subst hv;have hb:=Ae w (.cells #[.slice sa g.S.length sc,.slice aa g.A.length ac,.slice ta g.T.length tc] 32);have NN:=Aa (Hb _ g _ (h.below hb));rw[← hG]at NN;have HB:=Aa hb;have X0:=Aa (Ar w (.cells #[.slice sa g.S.length sc,.slice aa g.A.length ac,.slice ta g.T.length tc] 32));have RUN:=Aa (fun(hp:0<G.n) (wr:World) (sb bn bl bo bp base k:Nat) (s:TS) (nv cv:Value) (h:JD w wr (.slice sa g.S.length sc) (.slice aa g.A.length ac) (.slice ta g.T.length tc) sb bn bl bo bp base G.n s nv cv) (hI:AX G s.num s) (hc:s.calls=[]) (hk:k<G.n) (hu:s.num k=-1)=>dH (hC hp) h hI hc hk hu);clear h hb hC hG;obtain⟨n,hnn⟩:∃n,G.n=n:=⟨_,rfl⟩;rw[hnn]at NN hn RUN ⊢;have HNN:=Aa hnn;clear hnn;go_enter Tryz.func99,Tryz.ntmps99;go_wp2_with (first
  | (go_at_call 97;refine NN.out.mono ?_;rintro e w1 ⟨rfl,hb1⟩;have d0:=Af hb1 (Ab X0.out 0 _ rfl);have d1:=Af hb1 (Ab X0.out 1 _ rfl);have d2:=Af hb1 (Ab X0.out 2 _ rfl);have HB1:=Aa (HB.out.trans (hb1.mono HB.out.size));have hs1:=hb1.size;clear hb1))
 have hm3:=run_make_row' (P:=Tryz.prog) 22 3 (.int .i64 0) 8 Tryz.underlying22 Tryz.info3 rfl .i64 .i64 n (by omega) (by omega);have hm4:=run_make_row' (P:=Tryz.prog) 56 4 (.bool false) 1 Tryz.underlying56 Tryz.info4 rfl .i64 .i64 n (by omega) (by omega);refine Sq (fun _=>undef)
  (fun f=>{tmps:=#[(.agg #[.slice sa g.S.length sc,.slice aa g.A.length ac,.slice ta g.T.length tc]),.pointer (some ⟨w.heap.size,0,none⟩),.slice none 0 0,.int .i64 (n:Nat),f 4,undef,undef,undef,undef,undef,undef,undef,undef,(.agg #[.slice sa g.S.length sc,.slice aa g.A.length ac,.slice ta g.T.length tc]),.int .i64 (n:Nat),f 15,f 16,f 17,f 18,f 19,f 20,f 21,f 22,f 23,f 24,f 25,undef,undef,undef,undef,undef,undef,undef,undef,undef,undef,undef,undef,undef,undef,undef,undef,undef,undef,undef,undef,undef,undef,undef,undef,undef,undef,undef,undef,undef,undef,undef,undef,undef,undef,undef,undef,undef,undef,undef,undef,undef,undef,undef,undef,undef,undef,undef,undef,undef,undef,undef,undef,undef,undef,undef,undef,undef,undef,undef,undef,undef,undef,undef,undef,undef],defers:=[]}) (fun j=>match j with | 11=>4 | j=>j+15)
  (VW w w1 (.slice sa g.S.length sc) (.slice aa g.A.length ac) (.slice ta g.T.length tc) n) Xs
  rfl (by kernel_rfl) (fun i u w w' hb h=>Zd hb h) (by kernel_rfl) (by kernel_rfl) ?_ ?_ ?_
 ·intro j hj f v;rcases j with _ | _ | _ | _ | _ | _ | _ | _ | _ | _ | _ | _ | j
  all_goals first | rfl | (simp at hj;omega)
 ·refine⟨?_,?_,?_,?_,?_,?_,?_,?_,?_,?_,?_,?_,trivial⟩
  ·intro f w' hb hd hS K hK;obtain⟨e0,e1,e2⟩:=JN hb d0 d1 d2;dsimp only;go_simp;exact hK (.agg #[.slice sa g.S.length sc,.slice aa g.A.length ac,.slice ta g.T.length tc]) w' (Ak _ _) rfl (IC (by decide))
  ·intro f w' hb hd hS K hK;dsimp only;go_simp;exact hK (.int .i64 (n:Nat)) w' (Ak _ _) rfl (IC (by decide))
  ·intro f w' hb hd hS K hK;have h:f 16=(.int .i64 (n:Nat)):=hd 1 (by kernel_rfl);have hw1:=hb.size;dsimp only;go_simp;have q:=hK _ _ (Ae w' _) (MV w w1 _ _ _ n w' hw1 2 (by decide)) (MA n);simp only[h]at q;exact q
  ·intro f w' hb hd hS K hK;dsimp only;go_simp;exact hK (.int .i64 (n:Nat)) w' (Ak _ _) rfl (IC (by decide))
  ·intro f w' hb hd hS K hK;have h:f 18=(.int .i64 (n:Nat)):=hd 3 (by kernel_rfl);have hw1:=hb.size;dsimp only;go_simp;have q:=hK _ _ (Ae w' _) (MV w w1 _ _ _ n w' hw1 4 (by decide)) (MA n);simp only[h]at q;exact q
  ·intro f w' hb hd hS K hK;dsimp only;go_simp;exact hK (.int .i64 (n:Nat)) w' (Ak _ _) rfl (IC (by decide))
  ·intro f w' hb hd hS K hK;have h:f 20=(.int .i64 (n:Nat)):=hd 5 (by kernel_rfl);have hw1:=hb.size;dsimp only;go_simp;have q:=hK _ _ (Ae w' _) (YO w w1 _ _ _ n w' hw1 6 (by decide)) (MA n);simp only[h]at q;exact q
  ·intro f w' hb hd hS K hK;dsimp only;go_simp;exact hK (.int .i64 (n:Nat)) w' (Ak _ _) rfl (IC (by decide))
  ·intro f w' hb hd hS K hK;have h:f 22=(.int .i64 (n:Nat)):=hd 7 (by kernel_rfl);have hw1:=hb.size;dsimp only;go_simp;have q:=hK _ _ (Ae w' _) (MV w w1 _ _ _ n w' hw1 8 (by decide)) (MA n);simp only[h]at q;exact q
  ·intro f w' hb hd hS K hK;obtain⟨bn,bl,bo,bp,e1,e2,e3,e4,hF⟩:=bY (a:=f 17) (b:=f 19) (c:=f 21) (e:=f 23) (hd 2 (by kernel_rfl)) (hd 4 (by kernel_rfl)) (hd 6 (by kernel_rfl)) (hd 8 (by kernel_rfl)) (hS 2 4 (by kernel_rfl) (by kernel_rfl) (by decide)) (hS 2 6 (by kernel_rfl) (by kernel_rfl) (by decide)) (hS 2 8 (by kernel_rfl) (by kernel_rfl) (by decide)) (hS 4 6 (by kernel_rfl) (by kernel_rfl) (by decide)) (hS 4 8 (by kernel_rfl) (by kernel_rfl) (by decide)) (hS 6 8 (by kernel_rfl) (by kernel_rfl) (by decide));have e0:f 15=(.agg #[.slice sa g.S.length sc,.slice aa g.A.length ac,.slice ta g.T.length tc]):=hd 0 (by kernel_rfl);dsimp only;go_simp;have q:=hK _ w' (Ak _ _) ⟨bn,bl,bo,bp,rfl,hF⟩ (IC (by decide));simp only[e0,e1,e2,e3,e4]at q;exact q
  ·intro f w' hb hd hS K hK;obtain⟨bn,bl,bo,bp,e1,hF⟩:=hd 9 (by kernel_rfl);have e1:f 24=_:=e1;dsimp only;go_simp;have q:=hK _ _ (Ae w' _) ⟨_,bn,bl,bo,bp,_,rfl,dF HB1.out ⟨hb.os,hb.tape,hb.output,hb.size,hb.block⟩ hF⟩ (IC (by decide));simp only[e1]at q;exact q
  ·intro f w' hb hd hS K hK;obtain⟨sb,bn,bl,bo,bp,base,e1,hM⟩:=hd 10 (by kernel_rfl);have e1:f 25=_:=e1;dsimp only;go_simp;have q:=hK _ w' (Ak _ _) ⟨sb,bn,bl,bo,bp,base,rfl,hM⟩ (IC (by decide));simp only[e1]at q;exact q
 ·intro f w' hb hr hS;obtain⟨sb,bn,bl,bo,bp,base,e1,hM⟩:=hr 11 (by decide);have e1:f 4=_:=e1;clear hr hS hb;dsimp only;rw[e1];generalize f 15=x15;generalize f 16=x16;generalize f 17=x17;generalize f 18=x18;generalize f 19=x19;generalize f 20=x20;generalize f 21=x21;generalize f 22=x22;generalize f 23=x23;generalize f 24=x24;generalize f 25=x25;have HM:=Aa (hM.numEq (num':=fun x=>if x<0 then -1 else 0) (fun x _=>rfl));clear hM d0 d1 d2 hm3 hm4 NN HB X0 HB1 hs1 e1;go_wp2_with fail
  go_loopg [27] n (fun fu c wr=>∃k:Nat,k+fu=n∧c=.int .i64 k∧Ex w wr (.slice sa g.S.length sc) (.slice aa g.A.length ac) (.slice ta g.T.length tc) sb bn bl bo bp base n (fun x=>if x<k then -1 else 0) (fun _=>0) (fun _=>false) [] (fun _=>0) 0 [] (.slice none 0 0) (.slice none 0 0))
  case atStart=>exact⟨0,by omega,rfl,by first | exact HM.out | exact HM.out.drew⟩
  case round=>
   clear HM;obtain⟨k,hk,rfl,hM⟩:=hrel;by_cases hlt:k<n
   ·have i1:(k:Int)<(n:Int):=by omega
    have c3:=hM.cell 3 _ rfl;have n0:=Ab hM.hn k _ (Bw _ k (by rw[AJ];exact hlt));have fn:=Ag hM.hn k;have HN:=Aa ((hM.setNum k (-1)).numEq (num':=fun x=>if x<k+1 then -1 else 0) (fun x _=>Xc k x));clear hM;generalize (BV n _).getD k 0=vn at*;go_wp2_with fail
    go_roundg (n - (k+1))
    case measure=>omega
    case rel=>exact⟨k+1,by omega,by simp,HN.out⟩
   ·obtain rfl:k=n:=by omega
    have HM:=Aa (hM.numEq (num':=ZG.num) (fun x hx=>if_pos hx));have HI0:=Aa (Xt G);clear hM;go_wp2_with fail
    go_loopg [6,38] k (fun fu t6 c wr=>∃(q:Nat) (s:TS) (nv cv:Value),q+fu=k∧c=.int .i64 q∧t6=.int .i64 (s.seen:Nat)∧Hid (AX G (fun _=>-1) s∧s.calls=[]∧∀x,x<q→0≤s.num x)∧Hid (JD w wr (.slice sa g.S.length sc) (.slice aa g.A.length ac) (.slice ta g.T.length tc) sb bn bl bo bp base k s nv cv))
    case atStart=>exact⟨0,ZG,_,_,by omega,rfl,rfl,Aa ⟨HI0.out,rfl,fun x hx=>by omega⟩,Aa HM.out⟩
    case round=>
     clear HM HI0;obtain⟨q,s,nv,cv,hq,rfl,rfl,HI,HS⟩:=hrel;by_cases hlt2:q<k
     ·have i1:(q:Int)<(k:Int):=by omega
      have hS:=HS.out;unfold JD at hS;have c3:=hS.cell 3 _ rfl;have n0:=Ab hS.hn q _ (Bw _ q (by rw[AJ];exact hlt2));rw[BW _ _ _ _ hlt2]at n0;clear hS;by_cases hu:s.num q=-1
      ·rw[hu]at n0;have RC:=Aa (RUN.out (by omega) wr sb bn bl bo bp base q s nv cv HS.out ⟨HI.out.1.inv,HI.out.1.c1,HI.out.1.c2,fun x h=>h⟩ HI.out.2.1 hlt2 hu);go_wp2_with (first | (go_at_call 112;refine RC.out.mono ?_;rintro e w2 ⟨s2,nv2,cv2,rfl,hI2,hc2,hr2,hS2⟩;have HI2:=Aa hI2;have HS2:=Aa hS2;clear hI2 hS2))
       go_roundg (k - (q+1))
       case measure=>omega
       case rel=>
        refine⟨q+1,s2,nv2,cv2,by omega,by simp,rfl,Aa ⟨⟨HI2.out.inv,HI2.out.c1,HI2.out.c2,fun x h=>absurd h (by omega)⟩,hc2,fun x hx=>?_⟩,HS2⟩;by_cases e:x=q
        ·rw[e];exact hr2
        ·exact HI2.out.keep x (HI.out.2.2 x (by omega))
      ·have hu0:0≤s.num q:=by rcases HI.out.1.inv.numLt q with e | e;exact absurd e hu;exact e.1
       go_wp2_with fail
       go_roundg (k - (q+1))
       case measure=>omega
       case rel=>
        refine⟨q+1,s,nv,cv,by omega,by simp,rfl,Aa ⟨HI.out.1,HI.out.2.1,fun x hx=>?_⟩,HS⟩;by_cases e:x=q
        ·rw[e];exact hu0
        ·exact HI.out.2.2 x (by omega)
     ·obtain rfl:q=k:=by omega
      have hmm:=@run_makeMap Tryz.prog;have hS:=HS.out;unfold JD at hS;have hmk:=Ae wr (.map #[] 0);have hp0:=hS.pt.more hmk;have f7:=hp0.f7;have HP0:=Aa (hp0.same (part':=Lz s.part 0) (fun x _=>by simp[Lz]));have HMI:=Aa (Bu.made wr);have hmb:w.heap.size≤wr.heap.size∧wr.heap.size≠sb∧wr.heap.size≠bp:=by obtain⟨d1,d2,d3⟩:=hS.d;have:=hS.hb;have:=hS.below.size;omega
      have HPL:Hid (∀x,x<q→(Lit.int .i64 (s.part x)).wf=true):=Aa (fun x hx=>by have a:=HI.out.1.inv.partLt x (HI.out.2.2 x hx) (HI.out.1.off HI.out.2.1 x);have b:=HI.out.1.lens;have c:=HNN.out;exact WalkArith.wf_i64 (by omega));obtain⟨mb,hmbe⟩:∃mb,wr.heap.size=mb:=⟨_,rfl⟩;clear hS hp0 hmk;go_wp2_with fail
      rw[hmbe]at HMI hmb;obtain⟨wr1,hwr1⟩:∃z,wr.alloc (.map #[] 0)=z:=⟨_,rfl⟩;rw[hwr1]at HP0 HMI
      try rw[hwr1]
      clear hwr1 f7;go_loopg [60] q (fun fu c wr=>∃k m:Nat,k+fu=q∧c=.int .i64 k∧m≤k∧Bu wr mb m (Oy s.part k) (DZ (Gh s.part) k).2∧Ms w wr sb bp q (Lz s.part k))
      case atStart=>exact⟨0,0,by omega,rfl,AQ _,by first | exact HMI.out | exact HMI.out.drew,by first | exact HP0.out | exact HP0.out.drew⟩
      case round=>
       clear HMI HP0 hmbe;obtain⟨k,m,hk,rfl,hm,hM,hP⟩:=hrel;by_cases hlt3:k<q
       ·have i1:(k:Int)<(q:Int):=by omega
        have pc:=hP.cell hlt3;rw[show Lz s.part k k=s.part k from if_neg (by omega)]at pc;have f7:=hP.f7;have fp:=hP.free k;have HW:=Aa (HPL.out k hlt3);have HM:=Aa hM;have HP:=Aa hP;obtain⟨cc,hcc⟩:∃c,(Mp (Gh s.part) k:Nat)=c:=⟨_,rfl⟩;obtain⟨p,hp⟩:∃p,s.part k=p:=⟨_,rfl⟩;rcases had:(Oy s.part k (s.part k)).isSome with _ | _
        ·obtain⟨y1,y2,y3,y4⟩:=fB had;have HMP:Hid (∀w',Bu w' mb (m+1) (fun x=>if x=p then some (((DZ (Gh s.part) k).2:Nat):Int) else Oy s.part k x) (if(Oy s.part k p).isSome then(DZ (Gh s.part) k).2 else(DZ (Gh s.part) k).2+1)→Bu w' mb (m+1) (Oy s.part (k+1)) (DZ (Gh s.part) (k+1)).2):=Aa (fun w' h=>by rw[← hp,y1,had,if_neg (by simp),← y2]at h;exact h);have HL:Hid (∀w' m',Bu w' mb m' (Oy s.part (k+1)) (DZ (Gh s.part) (k+1)).2→(Instr.lookup 153 (.map (some mb)) (.int .i64 p) false).run Tryz.prog w'=.ok (.int .i64 cc) w'):=Aa (fun w' m' h=>by have:=h.look HW.out;rw[y3,hp,hcc]at this;exact this);have HWL:Hid ((Lit.int .i64 (((DZ (Gh s.part) k).2:Nat):Int)).wf=true):=Aa (WalkArith.wf_i64 (by have:=Fe (Gh s.part) k;omega));have HST:=Aa (PX s.part k);rw[hcc]at HST;rw[hp]at pc HW had;have HAD:=Aa had;clear hM hP y1 y2 y3 y4 hcc hp had;obtain⟨sz,hsz⟩:∃z,(DZ (Gh s.part) k).2=z:=⟨_,rfl⟩;rw[hsz]at HM HMP HWL;go_wp2_with (first
          | (at_lookup;refine Id HM.out rfl rfl rfl rfl HW.out ?_;rw[HAD.out])
          | (at_mapUpdate;refine QH HM.out (by unfold maxLen;omega) rfl rfl rfl rfl rfl HW.out HWL.out ?_;intro w2 hm2 hg2;have HM2:=Aa (HMP.out _ hm2);have HP2:=Aa (HP.out.grown hg2 hmb.1 hmb.2.1 hmb.2.2);clear hm2 hg2 pc f7 fp)
          | (refine bP HM.out rfl rfl rfl ?_))
         have f7:=HP2.out.f7;have pc:=HP2.out.cell hlt3;have fp:=HP2.out.free k;have hlook:=HL.out w2.drew (m+1) HM2.out.drew;have HX:Hid (Ms w (w2.setCell ⟨bp,k,none⟩ (.int .i64 cc)) sb bp q (Lz s.part (k+1))):=Aa (by have:=HP2.out.set k cc;rw[HST.out]at this;exact this);have HY:=Aa (HM2.out.setCell (a:=⟨bp,k,none⟩) hmb.2.2 (.int .i64 cc));refine Bo 9 (by kernel_rfl) (by kernel_rfl) ?_;simp only[List.take_succ_cons,List.take_zero,List.drop_succ_cons,List.drop_zero];repeat still_step
         refine wpStill_nil ?_;go_wp2_with fail
         go_roundg (q - (k+1))
         case measure=>omega
         case rel=>exact⟨k+1,(m+1),by omega,by simp,by omega,HY.out,by first | exact HX.out | exact HX.out.drew⟩
        ·obtain⟨y1,y2,y3⟩:=dJ had;have HM2:Hid (Bu wr mb m (Oy s.part (k+1)) (DZ (Gh s.part) (k+1)).2):=Aa (by rw[y2,y3];exact HM.out);have HL:Hid (∀w' m',Bu w' mb m' (Oy s.part (k+1)) (DZ (Gh s.part) (k+1)).2→(Instr.lookup 153 (.map (some mb)) (.int .i64 p) false).run Tryz.prog w'=.ok (.int .i64 cc) w'):=Aa (fun w' m' h=>by have:=h.look HW.out;rw[y2,y1,hp,hcc]at this;exact this);have HST:=Aa (PX s.part k);rw[hcc]at HST;rw[hp]at pc HW had;have HAD:=Aa had;clear hM hP y1 y2 y3 hcc hp had;go_wp2_with (first
          | (at_lookup;refine Id HM.out rfl rfl rfl rfl HW.out ?_;rw[HAD.out]))
         have hlook:=HL.out wr.drew m HM2.out.drew;have HX:Hid (Ms w (wr.setCell ⟨bp,k,none⟩ (.int .i64 cc)) sb bp q (Lz s.part (k+1))):=Aa (by have:=HP.out.set k cc;rw[HST.out]at this;exact this);have HY:=Aa (HM2.out.setCell (a:=⟨bp,k,none⟩) hmb.2.2 (.int .i64 cc));refine Bo 9 (by kernel_rfl) (by kernel_rfl) ?_;simp only[List.take_succ_cons,List.take_zero,List.drop_succ_cons,List.drop_zero];repeat still_step
         refine wpStill_nil ?_;go_wp2_with fail
         go_roundg (q - (k+1))
         case measure=>omega
         case rel=>exact⟨k+1,m,by omega,by simp,by omega,HY.out,by first | exact HX.out | exact HX.out.drew⟩
       ·obtain rfl:k=q:=by omega
        have f7:=hP.f7;go_wp2_with fail
        go_ret;exact⟨s,bp,HI.out.1,HI.out.2.1,HI.out.2.2,rfl,hP.hp,hP.below⟩
noncomputable def Be(g:Gr):List Int:=(GM g).map (fun x:Nat=>(x:Int))
theorem dT(E:Nat→Nat→Bool)(n:Nat):(DZ E n).1.map (fun x:Nat=>(x:Int))=BV n (fun k=>((Mp E k:Nat):Int)):=by
 refine List.ext_getElem (by simp[Fb,BV]) fun k h1 h2=>?_;have hk:k<n:=by simpa[Fb]using h1
 have e:=Hg E n k hk;rw[AM,Bf (by rw[Fb];exact hk)]at e;simp only[Option.getD_some]at e;simp[BV,e]
theorem bH(part:Nat→Int)(n:Nat):BV n (Lz part n)=(DZ (Gh part) n).1.map (fun x:Nat=>(x:Int)):=by
 rw[dT];exact Cs fun x hx=>if_pos hx
def gB:TG:=⟨0,fun _=>0,fun _=>0,fun x k h=>absurd h (by omega),fun x h=>absurd h (by omega)⟩
theorem aT{w:World}{g:Gr}{sa aa ta:Option Addr}{sc ac tc:Nat}(h:Ao w (.agg #[.slice sa g.S.length sc,.slice aa g.A.length ac,.slice ta g.T.length tc]) g)(hR:Rt g)(hn:Ad g≤100000):
 dZ w (Zc g hR) sa ta g.S.length g.T.length:=by
 have hnn:=Ap hR;have hne:=hR.ne;obtain⟨s,a,t,e,⟨sa',sc',e1,hS⟩,-,⟨ta',tc',e3,hT⟩⟩:=h.ex;simp at e;obtain⟨rfl,-,rfl⟩:=e;simp at e1 e3;obtain⟨rfl,-⟩:=e1;obtain⟨rfl,-⟩:=e3;refine⟨hn,show g.S.length=Ad g+1 by omega,h.sT,fun x hx=>hR.stTop (show x<g.S.length by have:x≤Ad g:=hx;omega),fun x hx=>?_,fun k hk=>?_⟩
 ·have hx':x≤Ad g:=hx;obtain⟨b,off,e1,e2⟩:=hS x (by omega);exact⟨b,off,e1,by rw[e2,hR.st (by omega)];rfl⟩
 ·obtain⟨b,off,e1,e2⟩:=hT k hk;have:=hR.tos k hk;refine⟨b,off,e1,?_⟩;rw[e2];have e3:(((g.T.getD k 0).toNat:Nat):Int)=g.T.getD k 0:=by omega
  show _=some (Value.int .i64 ((((g.T.getD k 0).toNat:Nat):Int)));rw[e3]
theorem Yf(v:Value)(g:Gr)(w:World)(h:Ao w v g)(hn:Ad g≤100000):
 Calls Tryz.prog 99 #[v] w fun e w'=>∃b,e=.returned (GJ b (Ad g))∧w'.heap[b]?=some (.cells (ints (Be g)) 3 (0,0))∧Below w.heap.size w w':=by
 obtain⟨sa,aa,ta,sc,ac,tc,rfl,-⟩:=h.var;cases hr:Bj g
 ·have h0:=Cp hr;refine(NZ w g gB _ rfl h (by rw[h0];rfl) (fun h=>absurd h (by simp[gB])) (by simp[gB])).mono ?_;rintro e w' ⟨s,b,-,-,-,rfl,hh,hb⟩;refine⟨b,by rw[h0];rfl,?_,hb⟩;have:Be g=[]:=by unfold Be GM;rw[h0];rfl
  rw[this];exact hh
 ·have hR:=(Aq g).1 hr;refine(NZ w g (Zc g hR) _ rfl h rfl (fun _=>aT h hR hn) hn).mono ?_;rintro e w' ⟨s,b,hI,hc,hs,rfl,hh,hb⟩;refine⟨b,rfl,?_,hb⟩;have:Be g=BV (Ad g) (Lz s.part (Ad g)):=by
   rw[bH,WB hR hI hc hs];rfl
  rw[this];exact hh
end Go.Proofs.YtlhpjfnfemebdaaGreat
