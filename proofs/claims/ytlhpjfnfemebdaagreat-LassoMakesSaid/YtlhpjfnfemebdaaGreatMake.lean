/-
  lasso.Make, and the document's: the walks. (Written by gen_make.py.)
-/
import Derived.Test.YtlhpjfnfemebdaaGreatJCovE
import Derived.Test.YtlhpjfnfemebdaaGreatLassoSame
import Derived.Test.YtlhpjfnfemebdaaGreatFound19
import Derived.Test.YtlhpjfnfemebdaaGreatJStart
set_option maxRecDepth 100000
set_option maxHeartbeats 64000000
set_option linter.unusedSimpArgs false
namespace Go.Proofs.YtlhpjfnfemebdaaGreat
open Go.RowKit
noncomputable def ZC(s:Sp)(en:List (List Bool))(ag mode:Int)(part:List Int):List Int:=if AU (Ai (s.confs.length:Int) s.ed) en ag mode part=true then DO s.par s.ag (Ay part).toNat else []
structure gP(s:Sp):Prop where
 par:∀j,1≤j→j<s.confs.length→0≤s.par.getD j 0∧s.par.getD j 0<(j:Int)
 lenP:s.par.length=s.confs.length
 lenA:s.ag.length=s.confs.length
 le:s.confs.length≤500
 nodes:Ad (Ai (s.confs.length:Int) s.ed)≤100000
structure eF(s:Sp)(en:List (List Bool))(ag mode:Int)(part:List Int):Prop where
 gd:AU (Ai (s.confs.length:Int) s.ed) en ag mode part=true→Vu (Ai (s.confs.length:Int) s.ed) en ag mode part
 rd:AU (Ai (s.confs.length:Int) s.ed) en ag mode part=true→dG (Ai (s.confs.length:Int) s.ed) en ag mode part
 lst:AU (Ai (s.confs.length:Int) s.ed) en ag mode part=true→0≤Ay part∧(Ay part).toNat<s.confs.length
 eq:Mc (Ai (s.confs.length:Int) s.ed) en ag mode part=(Cc (Ai (s.confs.length:Int) s.ed) en ag mode part).2.1
def Pt(w:World)(s:Sp)(en:List (List Bool))(ag mode:Int)(part:List Int)(e:Ending)(w':World):Prop:=
 ∃av cv,e=.returned (.tuple #[av,cv,.bool (AU (Ai (s.confs.length:Int) s.ed) en ag mode part)])∧Am w' av (ZC s en ag mode part)∧Am w' cv (Cc (Ai (s.confs.length:Int) s.ed) en ag mode part).2.1∧Below w.heap.size w w'
theorem Yx(v u pv:Value)(s:Sp)(en:List (List Bool))(ag mode:Int)(part:List Int)(w:World)(h:QV w v s)(hu:AO w u en)(hp:Am w pv part)(hl:part.length≤1000000)(hS:gP s)(hM:eF s en ag mode part):
 Calls Tryz.prog 10 #[v,u,.int .i64 ag,.int .i64 mode,pv] w (Pt w s en ag mode part):=by
 unfold Pt;obtain⟨vC,sa,sc,aa,ac,ta,tc,vP,vA,rfl,hC,hG,hP,hA⟩:=id h.var;obtain⟨ca,cc,rfl,-⟩:=hC;obtain⟨pa,pc,rfl,-⟩:=hP;obtain⟨ba,bc,rfl,-⟩:=hA;have S0:=Aa (Tq.start w #[.slice ca s.confs.length cc,.slice sa (Ai (s.confs.length:Int) s.ed).S.length sc,.slice aa (Ai (s.confs.length:Int) s.ed).A.length ac,.slice ta (Ai (s.confs.length:Int) s.ed).T.length tc,.slice pa s.par.length pc,.slice ba s.ag.length bc] 34);have HC:=Aa (Ji _ _ _ _ en ag mode part _ (hG.below S0.out.below) (hu.below S0.out.below) (hp.below S0.out.below) hl hS.nodes hM.gd);have HTO:=Aa (fun(w':World) (hb:Below w.heap.size w w') (i:Nat) (hi:i<s.confs.length)=>eG _ s hS.par hS.lenP hS.lenA hS.le i w' hi (h.below hb));obtain⟨ua,uc,rfl,-⟩:=hu;have HPA:=Aa hp;obtain⟨va,vc,rfl,-⟩:=hp;have HLS:=Aa hM.lst;have HNE:=Aa (fun h=>(hM.gd h).ne);have HEQ:=Aa hM.eq;clear h hG hM hS;unfold ZC;generalize (Ai (s.confs.length:Int) s.ed)=G at*;obtain⟨-,c1,c2,c3⟩:=BX S0.out.blk;cases hgood:AU G en ag mode part
 ·rw[hgood]at HC;rw[if_neg (by simp),Pn hgood];clear HLS HNE HTO hgood HPA HEQ;generalize (Cc G en ag mode part).2.1=WL at*;go_enter Tryz.func10,Tryz.ntmps10;go_wp2_with (go_at_call 15;refine HC.out.mono ?_;rintro e w2 ⟨rv,rfl,hi,hb2⟩;obtain⟨ra,rc,rfl,-⟩:=id hi;have S2:=Aa (S0.out.more hb2);clear hb2 hi)
  refine Bd (v:=.tuple #[.slice none 0 0,.slice none 0 0,.bool false]) (by simp[results,Tryz.results10,go_sem]) rfl ?_;exact⟨_,_,rfl,⟨none,0,rfl,fun j hj=>by simp at hj⟩,⟨none,0,rfl,fun j hj=>by simp at hj⟩,S2.out.below⟩
 ·rw[hgood]at HC;rw[if_pos rfl];obtain⟨h0,h1⟩:=HLS.out hgood;obtain⟨i,hi⟩:∃i:Nat,Ay part=(i:Int):=⟨(Ay part).toNat,by omega⟩;rw[hi]at h1 ⊢;rw[BT]at h1 ⊢;have HLE:=Aa (fun(w':World) (hb:Below w.heap.size w w')=>(by have:=Nr _ part w' (HPA.out.below hb) (HNE.out hgood) hl;rwa [hi]at this:Calls Tryz.prog 26 #[.slice va part.length vc] w' fun e w2=>e=.returned (.int .i64 (i:Nat))∧Below w'.heap.size w' w2));have HT:=Aa (fun(w':World) (hb:Below w.heap.size w w')=>HTO.out w' hb i h1)
  skip
  clear HLS HNE HTO hgood hi h0 h1 HPA HEQ;generalize (Cc G en ag mode part).2.1=WL at*;generalize DO s.par s.ag i=PL at*;generalize s.par.length=nP at*;generalize s.ag.length=nB at*;generalize s.confs.length=n at*;go_enter Tryz.func10,Tryz.ntmps10;go_wp2_with (go_at_call 15;refine HC.out.mono ?_;rintro e w2 ⟨rv,rfl,hi,hb2⟩;have I2:=Aa hi;obtain⟨ra,rc,rfl,-⟩:=id I2.out;have S2:=Aa (S0.out.more hb2);clear hb2 hi)
  clear c1 c2 c3;obtain⟨c0,c1,c2,c3,c4,c5⟩:=JS S2.out.blk;refine ER (fun q=>match q with | 10=>.slice none 0 0 | 11=>.slice none 0 0 | 12=>.bool false | _=>undef)
   (fun f=>{tmps:=#[(.agg #[.slice ca n cc,.slice sa G.S.length sc,.slice aa G.A.length ac,.slice ta G.T.length tc,.slice pa nP pc,.slice ba nB bc]),.slice ua en.length uc,.int .i64 ag,.int .i64 mode,(.slice va part.length vc),.pointer (some ⟨w.heap.size,0,none⟩),undef,undef,undef,undef,f 10,f 11,f 12,(.slice ra WL.length rc),.bool true,.tuple #[(.slice ra WL.length rc),.bool true],.pointer (some ⟨w.heap.size,1,none⟩),(.agg #[.slice sa G.S.length sc,.slice aa G.A.length ac,.slice ta G.T.length tc]),.slice ua en.length uc,.int .i64 ag,.int .i64 mode,(.slice va part.length vc),.tuple #[(.slice ra WL.length rc),.bool true],(.slice ra WL.length rc),.bool true,.bool true,.bool false,f 27,f 28,f 29,f 30,f 31],defers:=[]}) (fun j=>[27,28,29,30,31,10,11,12].getD j 0)
   (dS [.eq ((.agg #[.slice ca n cc,.slice sa G.S.length sc,.slice aa G.A.length ac,.slice ta G.T.length tc,.slice pa nP pc,.slice ba nB bc])),.eq ((.slice va part.length vc)),.eq (.int .i64 (i:Nat)),.ints PL,.eq ((.slice ra WL.length rc)),.ints PL,.eq ((.slice ra WL.length rc)),.eq (.bool true)])
   rfl (by kernel_rfl) (fun i u w w' hb h=>RK.mono _ hb h) (by kernel_rfl) (by kernel_rfl) ?_ ?_ ?_
  ·intro j hj f v;rcases j with _ | _ | _ | _ | _ | _ | _ | _ | j
   all_goals first | rfl | (simp at hj;omega)
  ·refine⟨?_,?_,?_,?_,?_,?_,?_,?_,trivial⟩
   ·intro f w' hb hd K hK;obtain⟨e0,e1,e2,e3,e4,e5⟩:=gL hb c0 c1 c2 c3 c4 c5;dsimp only;go_simp;exact hK ((.agg #[.slice ca n cc,.slice sa G.S.length sc,.slice aa G.A.length ac,.slice ta G.T.length tc,.slice pa nP pc,.slice ba nB bc])) w' (Ak _ _) rfl
   ·intro f w' hb hd K hK;dsimp only;go_simp;exact hK ((.slice va part.length vc)) w' (Ak _ _) rfl
   ·intro f w' hb hd K hK;have h1:f 28=(.slice va part.length vc):=hd 1 (by kernel_rfl);have HO:=Aa (HLE.out w' (S2.out.below.trans (((Ak _ w2).drew.trans hb).mono S2.out.below.size)));dsimp only;go_simp;go_wp2_with (go_at_call 26;refine HO.out.mono ?_;rintro e w3 ⟨rfl,hb3⟩)
    have q:=hK (.int .i64 (i:Nat)) w3 hb3 rfl;simp only[h1]at q;exact q
   ·intro f w' hb hd K hK;have h0:f 27=(.agg #[.slice ca n cc,.slice sa G.S.length sc,.slice aa G.A.length ac,.slice ta G.T.length tc,.slice pa nP pc,.slice ba nB bc]):=hd 0 (by kernel_rfl);have h2:f 29=.int .i64 (i:Nat):=hd 2 (by kernel_rfl);have HO:=Aa (HT.out w' (S2.out.below.trans (((Ak _ w2).drew.trans hb).mono S2.out.below.size)));dsimp only;go_simp;go_wp2_with (go_at_call 25;refine HO.out.mono ?_;rintro e w3 ⟨tv,rfl,hO,hb3⟩)
    have q:=hK _ w3 hb3 (hO.ints:Am w3 tv PL);simp only[h0,h2]at q;exact q
   ·intro f w' hb hd K hK;dsimp only;go_simp;exact hK ((.slice ra WL.length rc)) w' (Ak _ _) rfl
   ·intro f w' hb hd K hK;have h3:Am w' (f 30) PL:=hd 3 (by kernel_rfl);dsimp only;go_simp;exact hK _ w' (Ak _ _) h3
   ·intro f w' hb hd K hK;have h4:f 31=(.slice ra WL.length rc):=hd 4 (by kernel_rfl);dsimp only;go_simp;have q:=hK ((.slice ra WL.length rc)) w' (Ak _ _) rfl;simp only[h4]at q;exact q
   ·intro f w' hb hd K hK;dsimp only;go_simp;exact hK (.bool true) w' (Ak _ _) rfl
  intro f w3 hb3 hr;have r5:Am w3 (f 10) PL:=hr 5 (by decide);have r6:f 11=(.slice ra WL.length rc):=hr 6 (by decide);have r7:f 12=.bool true:=hr 7 (by decide);have R5:=Aa r5;have S3:=Aa (S2.out.more hb3);have I3:=Aa (I2.out.below hb3);rw[r6,r7];clear hr r5 r6 r7 hb3 c0 c1 c2 c3 c4 c5 HT HLE HC;obtain⟨xa,xc,e10,-⟩:=id R5.out;rw[e10]at R5 ⊢;generalize f 27=z27;generalize f 28=z28;generalize f 29=z29;generalize f 30=z30;generalize f 31=z31;go_wp2_with fail
  refine Bd (v:=.tuple #[.slice xa PL.length xc,(.slice ra WL.length rc),.bool true]) (by simp[results,Tryz.results10,go_sem]) rfl ?_;exact⟨_,_,rfl,R5.out,I3.out,S3.out.below⟩
theorem YJ(v u pv:Value)(s:Sp)(en:List (List Bool))(ag mode:Int)(part:List Int)(w:World)(h:QV w v s)(hu:AO w u en)(hp:Am w pv part)(hl:part.length≤1000000)(hS:gP s)(hM:eF s en ag mode part):
 Calls Tryz.prog 11 #[v,u,.int .i64 ag,.int .i64 mode,pv] w (Pt w s en ag mode part):=by
 unfold Pt;obtain⟨vC,sa,sc,aa,ac,ta,tc,vP,vA,rfl,hC,hG,hP,hA⟩:=id h.var;obtain⟨ca,cc,rfl,-⟩:=hC;obtain⟨pa,pc,rfl,-⟩:=hP;obtain⟨ba,bc,rfl,-⟩:=hA;have S0:=Aa (Tq.start w #[.slice ca s.confs.length cc,.slice sa (Ai (s.confs.length:Int) s.ed).S.length sc,.slice aa (Ai (s.confs.length:Int) s.ed).A.length ac,.slice ta (Ai (s.confs.length:Int) s.ed).T.length tc,.slice pa s.par.length pc,.slice ba s.ag.length bc] 34);have HC:=Aa (Wc _ _ _ _ en ag mode part _ (hG.below S0.out.below) (hu.below S0.out.below) (hp.below S0.out.below) hl hS.nodes hM.rd);have HTO:=Aa (fun(w':World) (hb:Below w.heap.size w w') (i:Nat) (hi:i<s.confs.length)=>cX _ s hS.par hS.lenP hS.lenA hS.le i i w' (AQ _) hi (h.below hb));obtain⟨ua,uc,rfl,-⟩:=hu;have HPA:=Aa hp;obtain⟨va,vc,rfl,-⟩:=hp;have HLS:=Aa hM.lst;have HNE:=Aa (fun h=>(hM.gd h).ne);have HEQ:=Aa hM.eq;clear h hG hM hS;unfold ZC;generalize (Ai (s.confs.length:Int) s.ed)=G at*;obtain⟨-,c1,c2,c3⟩:=BX S0.out.blk;cases hgood:AU G en ag mode part
 ·rw[hgood]at HC;rw[if_neg (by simp),Pn hgood];clear HLS HNE HTO hgood HPA HEQ;generalize Mc G en ag mode part=WL at*;go_enter Tryz.func11,Tryz.ntmps11;go_wp2_with (go_at_call 27;refine HC.out.mono ?_;rintro e w2 ⟨rv,rfl,hi,hb2⟩;obtain⟨ra,rc,rfl⟩:=CQ hi;have S2:=Aa (S0.out.more hb2);clear hb2 hi)
  refine Bd (v:=.tuple #[.slice none 0 0,.slice none 0 0,.bool false]) (by simp[results,Tryz.results11,go_sem]) rfl ?_;exact⟨_,_,rfl,⟨none,0,rfl,fun j hj=>by simp at hj⟩,⟨none,0,rfl,fun j hj=>by simp at hj⟩,S2.out.below⟩
 ·rw[hgood]at HC;rw[if_pos rfl];obtain⟨h0,h1⟩:=HLS.out hgood;obtain⟨i,hi⟩:∃i:Nat,Ay part=(i:Int):=⟨(Ay part).toNat,by omega⟩;rw[hi]at h1 ⊢;rw[BT]at h1 ⊢;have HLE:=Aa (fun(w':World) (hb:Below w.heap.size w w')=>(by have:=Pm _ part w' (HPA.out.below hb) (HNE.out hgood) hl;rwa [hi]at this:Calls Tryz.prog 29 #[.slice va part.length vc] w' fun e w2=>e=.returned (.int .i64 (i:Nat))∧Below w'.heap.size w' w2));have HT:=Aa (fun(w':World) (hb:Below w.heap.size w w')=>HTO.out w' hb i h1);rw[HEQ.out]at HC;clear HLS HNE HTO hgood hi h0 h1 HPA HEQ;generalize (Cc G en ag mode part).2.1=WL at*;generalize DO s.par s.ag i=PL at*;generalize s.par.length=nP at*;generalize s.ag.length=nB at*;generalize s.confs.length=n at*;go_enter Tryz.func11,Tryz.ntmps11;go_wp2_with (go_at_call 27;refine HC.out.mono ?_;rintro e w2 ⟨rv,rfl,hi,hb2⟩;have I2:=Aa (DU hi);obtain⟨ra,rc,rfl,-⟩:=id I2.out;have S2:=Aa (S0.out.more hb2);clear hb2 hi)
  clear c1 c2 c3;obtain⟨c0,c1,c2,c3,c4,c5⟩:=JS S2.out.blk;refine ER (fun q=>match q with | 10=>.slice none 0 0 | 11=>.slice none 0 0 | 12=>.bool false | _=>undef)
   (fun f=>{tmps:=#[(.agg #[.slice ca n cc,.slice sa G.S.length sc,.slice aa G.A.length ac,.slice ta G.T.length tc,.slice pa nP pc,.slice ba nB bc]),.slice ua en.length uc,.int .i64 ag,.int .i64 mode,(.slice va part.length vc),.pointer (some ⟨w.heap.size,0,none⟩),undef,undef,undef,undef,f 10,f 11,f 12,(.slice ra WL.length rc),.bool true,.tuple #[(.slice ra WL.length rc),.bool true],.pointer (some ⟨w.heap.size,1,none⟩),(.agg #[.slice sa G.S.length sc,.slice aa G.A.length ac,.slice ta G.T.length tc]),.slice ua en.length uc,.int .i64 ag,.int .i64 mode,(.slice va part.length vc),.tuple #[(.slice ra WL.length rc),.bool true],(.slice ra WL.length rc),.bool true,.bool true,.bool false,f 27,f 28,f 29,f 30,f 31],defers:=[]}) (fun j=>[27,28,29,30,31,10,11,12].getD j 0)
   (dS [.eq ((.agg #[.slice ca n cc,.slice sa G.S.length sc,.slice aa G.A.length ac,.slice ta G.T.length tc,.slice pa nP pc,.slice ba nB bc])),.eq ((.slice va part.length vc)),.eq (.int .i64 (i:Nat)),.ints PL,.eq ((.slice ra WL.length rc)),.ints PL,.eq ((.slice ra WL.length rc)),.eq (.bool true)])
   rfl (by kernel_rfl) (fun i u w w' hb h=>RK.mono _ hb h) (by kernel_rfl) (by kernel_rfl) ?_ ?_ ?_
  ·intro j hj f v;rcases j with _ | _ | _ | _ | _ | _ | _ | _ | j
   all_goals first | rfl | (simp at hj;omega)
  ·refine⟨?_,?_,?_,?_,?_,?_,?_,?_,trivial⟩
   ·intro f w' hb hd K hK;obtain⟨e0,e1,e2,e3,e4,e5⟩:=gL hb c0 c1 c2 c3 c4 c5;dsimp only;go_simp;exact hK ((.agg #[.slice ca n cc,.slice sa G.S.length sc,.slice aa G.A.length ac,.slice ta G.T.length tc,.slice pa nP pc,.slice ba nB bc])) w' (Ak _ _) rfl
   ·intro f w' hb hd K hK;dsimp only;go_simp;exact hK ((.slice va part.length vc)) w' (Ak _ _) rfl
   ·intro f w' hb hd K hK;have h1:f 28=(.slice va part.length vc):=hd 1 (by kernel_rfl);have HO:=Aa (HLE.out w' (S2.out.below.trans (((Ak _ w2).drew.trans hb).mono S2.out.below.size)));dsimp only;go_simp;go_wp2_with (go_at_call 29;refine HO.out.mono ?_;rintro e w3 ⟨rfl,hb3⟩)
    have q:=hK (.int .i64 (i:Nat)) w3 hb3 rfl;simp only[h1]at q;exact q
   ·intro f w' hb hd K hK;have h0:f 27=(.agg #[.slice ca n cc,.slice sa G.S.length sc,.slice aa G.A.length ac,.slice ta G.T.length tc,.slice pa nP pc,.slice ba nB bc]):=hd 0 (by kernel_rfl);have h2:f 29=.int .i64 (i:Nat):=hd 2 (by kernel_rfl);have HO:=Aa (HT.out w' (S2.out.below.trans (((Ak _ w2).drew.trans hb).mono S2.out.below.size)));dsimp only;go_simp;go_wp2_with (go_at_call 28;refine HO.out.mono ?_;rintro e w3 ⟨tv,rfl,hO,hb3⟩)
    have q:=hK _ w3 hb3 (hO.ints:Am w3 tv PL);simp only[h0,h2]at q;exact q
   ·intro f w' hb hd K hK;dsimp only;go_simp;exact hK ((.slice ra WL.length rc)) w' (Ak _ _) rfl
   ·intro f w' hb hd K hK;have h3:Am w' (f 30) PL:=hd 3 (by kernel_rfl);dsimp only;go_simp;exact hK _ w' (Ak _ _) h3
   ·intro f w' hb hd K hK;have h4:f 31=(.slice ra WL.length rc):=hd 4 (by kernel_rfl);dsimp only;go_simp;have q:=hK ((.slice ra WL.length rc)) w' (Ak _ _) rfl;simp only[h4]at q;exact q
   ·intro f w' hb hd K hK;dsimp only;go_simp;exact hK (.bool true) w' (Ak _ _) rfl
  intro f w3 hb3 hr;have r5:Am w3 (f 10) PL:=hr 5 (by decide);have r6:f 11=(.slice ra WL.length rc):=hr 6 (by decide);have r7:f 12=.bool true:=hr 7 (by decide);have R5:=Aa r5;have S3:=Aa (S2.out.more hb3);have I3:=Aa (I2.out.below hb3);rw[r6,r7];clear hr r5 r6 r7 hb3 c0 c1 c2 c3 c4 c5 HT HLE HC;obtain⟨xa,xc,e10,-⟩:=id R5.out;rw[e10]at R5 ⊢;generalize f 27=z27;generalize f 28=z28;generalize f 29=z29;generalize f 30=z30;generalize f 31=z31;go_wp2_with fail
  refine Bd (v:=.tuple #[.slice xa PL.length xc,(.slice ra WL.length rc),.bool true]) (by simp[results,Tryz.results11,go_sem]) rfl ?_;exact⟨_,_,rfl,R5.out,I3.out,S3.out.below⟩
end Go.Proofs.YtlhpjfnfemebdaaGreat
