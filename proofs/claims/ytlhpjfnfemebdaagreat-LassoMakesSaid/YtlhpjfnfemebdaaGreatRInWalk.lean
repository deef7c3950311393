/-
  ref16.Inside: the walk. (Written by gen_rinwalk.py.)
-/
import Derived.Test.YtlhpjfnfemebdaaGreatInsideA
set_option linter.unusedSimpArgs false
namespace Go.Proofs.YtlhpjfnfemebdaaGreat
open Go.RowKit
set_option maxRecDepth 100000 in
set_option maxHeartbeats 64000000 in
theorem Ue(v u:Value)(g:Gr)(inl:List Bool)(src tgt:Nat)(w:World)(h:Ao w v g)(hu:Bc w u inl)(_hR:Rt g)(hl:inl.length=Ad g)(hlim:inl.length≤100000)(hs:Cz inl (src:Int)=true)(ht:Cz inl (tgt:Int)=true):
 Calls Tryz.prog 50 #[v,.int .i64 (src:Nat),.int .i64 (tgt:Nat),u] w fun e w'=>∃pv,e=.returned (.tuple #[pv,.bool (EB g inl src tgt).isSome])∧Am w' pv ((EB g inl src tgt).getD [])∧Below w.heap.size w w':=by
 obtain⟨i0,hi0,hz0,hz1,hz2⟩:=CE Tryz.info3;obtain⟨j0,hj0,hw0',hw1,hw2⟩:=CE Tryz.info22;obtain⟨sa,aa,ta,sc,ac,tc,rfl,-⟩:=h.var;obtain⟨ua,uc,rfl,-⟩:=id hu;have hlt:∀k:Nat,Cz inl (k:Int)=true→k<inl.length:=fun k hk=>by
  unfold Cz at hk;rw[Ci,EU]at hk;omega
 have hb0:=Ae w (.cells #[.slice sa g.S.length sc,.slice aa g.A.length ac,.slice ta g.T.length tc] 32);have B0:=Aa hb0;have X0:=Aa (Ar w (.cells #[.slice sa g.S.length sc,.slice aa g.A.length ac,.slice ta g.T.length tc] 32));have HIS:=Aa (fun(w':World) (hb:Below w.heap.size w w') (k:Nat)=>Zt inl _ k w' (hu.below hb));have HOU:=Aa (fun(w':World) (hb:Below w.heap.size w w') (x:Int)=>XF _ g x w' (h.below hb));have HN:=Aa (fun(w':World) (hb:Below w.heap.size w w')=>El _ g w' (h.below hb));have OL:Hid (∀x,(AR g x).length≤1000000):=Aa (fun x=>CP (Fk g _) h.sT);have hsk:=hlt src hs;have htk:=hlt tgt ht;have hs1:(src:Int)<(Ad g:Int):=by omega
 have ht1:(tgt:Int)<(Ad g:Int):=by omega
 have BI0:=Aa (BI.start (g:=g) hs (by omega));have IS1:Hid (∀(w':World),Below w.heap.size w w'→Calls Tryz.prog 78 #[.slice ua inl.length uc,.int .i64 (src:Nat)] w' fun e w2=>e=.returned (.bool true)∧Below w'.heap.size w' w2):=Aa (fun w' hb=>by have:=HIS.out w' hb src;rwa [hs]at this);have IS2:Hid (∀(w':World),Below w.heap.size w w'→Calls Tryz.prog 78 #[.slice ua inl.length uc,.int .i64 (tgt:Nat)] w' fun e w2=>e=.returned (.bool true)∧Below w'.heap.size w' w2):=Aa (fun w' hb=>by have:=HIS.out w' hb tgt;rwa [ht]at this);have hnn:Ad g≤100000:=by omega
 have HLE:=Aa hl;have HSS:=Aa hs;clear h hu hb0 hs ht hlt hl hsk htk;have RI:Hid (EB g inl src tgt=Lb g inl tgt [((src:Nat),[])] 0):=Aa rfl;generalize EB g inl src tgt=RES at*;go_enter Tryz.func50,Tryz.ntmps50;go_wp2_with (first
  | (go_at_call 78;refine(IS2.out _ B2.out).mono ?_;rintro e w3 ⟨rfl,hb⟩;have B3:=Aa (B2.out.trans (hb.mono B2.out.size));have X3:=Aa (Ah hb X2.out);have R0:=Aa (Qk.start w3 src);clear hb)
  | (go_at_call 78;refine(IS1.out _ B1.out).mono ?_;rintro e w2 ⟨rfl,hb⟩;have B2:=Aa (B1.out.trans (hb.mono B1.out.size));have X2:=Aa (Ah hb X1.out);clear hb)
  | (go_at_call 30;refine(HN.out _ B0.out).mono ?_;rintro e w1 ⟨rfl,hb⟩;have B1:=Aa (B0.out.trans (hb.mono B0.out.size));have X1:=Aa (Ah hb X0.out);clear hb))
 generalize decide ((src:Int)<0)=d1;generalize decide (Ad g≤src)=d2;generalize decide ((tgt:Int)<0)=d3;generalize decide (Ad g≤tgt)=d4;generalize (d1 || d2)=d5;generalize (d5 || d3)=d6;generalize (d6 || d4)=d7;go_loopg [11,12,13] (inl.length+1) (fun fu fv pv c wr=>∃(F:FS) (i:Nat) (vals:List Value),i+fu=inl.length+1∧i≤F.length∧c=.int .i64 i∧Hid (Qk w3 wr F fv pv vals)∧Hid (BI g inl src F)∧Hid (RES=Lb g inl tgt F i))
 case atStart=>exact⟨_,0,_,by omega,by omega,rfl,R0,BI0,RI⟩
 case round=>
  clear R0 BI0 RI;obtain⟨F,i,vals,hfu,hiF,rfl,HI,HB,HR⟩:=hrel;have hFl:=HB.out.len;have h0:0<F.length:=HB.out.pos;obtain⟨bf,cf,bp,cp,rfl,rfl,hcf,hcp⟩:=HI.out.lit h0;by_cases hlt:i<F.length
  ·have hf1:=hcf i hlt;have hp1:=hcp i hlt;obtain⟨x,hx⟩:∃x:Nat,(F.getD i (0,[])).1=(x:Int):=⟨(F.getD i (0,[])).1.toNat,by have:=HB.out.inn _ (Lp hlt);omega⟩;rw[hx]at hf1;have HX:=Aa hx;have HL:=Aa hlt;have z1:(i:Int)<(F.length:Int):=by omega
   have HIN:=Aa (HI.out.po.inn i (by rw[Fi];exact hlt));have hp2:=hp1;clear hcf hcp;by_cases hxt:x=tgt
   ·have E:=Aa (show RES=some (F.getD i (0,[])).2 by rw[HR.out];exact SN hlt hFl (by rw[hx,hxt]));have hzz:((x:Int)==(x:Int))=true:=by simp
    have HIN2:=Aa (DU HIN.out);rw[Yy hlt]at HIN2;obtain⟨ra,rc,hrv,-⟩:=id HIN2.out;rw[hrv]at hp1 HIN2;clear hx hlt hrv hp2 HIN;subst hxt;go_wp2_with fail
    refine Bd (v:=.tuple #[.slice ra (F.getD i (0,[])).2.length rc,.bool true]) (by simp[results,Tryz.results50,go_sem]) rfl ?_;exact⟨_,by rw[E.out];rfl,by rw[E.out];exact HIN2.out,B3.out.trans (HI.out.below.mono B3.out.size)⟩
   ·have E:=Aa (show RES=Lb g inl tgt (OZ g inl F i) (i+1) by rw[HR.out];exact Pk hlt hFl (by rw[hx];omega));have hz:((x:Int)==(tgt:Int))=false:=Bh (by omega);have hv:OZ g inl F i=EY inl (AR g x) (F.getD i (0,[])).2 F (AR g x).length:=by unfold OZ;rw[hx]
    rw[hv]at E;have HE:=Aa (fun k hk=>HB.out.vis HL.out (i:=i) k hk);rw[hx]at HE;have HG:=Aa (fun k (hk:k<(AR g x).length)=>Hq (Up hk));have HO5:=Aa (Gi (inl:=inl) (el:=AR g x) (p:=(F.getD i (0,[])).2) (F:=F));have HVS:=Aa (fun k (hk:k<(AR g x).length)=>Hm (inl:=inl) (p:=(F.getD i (0,[])).2) (F:=F) hk);have HBW:=Aa (B3.out.trans (HI.out.below.mono B3.out.size));have HOC:=Aa (fun(w':World) (hb:Below w.heap.size w w')=>HOU.out w' hb (x:Int));obtain⟨c0,c1,c2⟩:=DY (Ah HI.out.below X3.out);have hol:=OL.out (x:Int);obtain⟨el,hel⟩:∃l,AR g (x:Int)=l:=⟨_,rfl⟩;rw[hel]at HE HG HO5 HVS HOC E hol;obtain⟨p,hp⟩:∃p,(F.getD i (0,[])).2=p:=⟨_,rfl⟩;rw[hp]at HE HO5 HVS E;have HPP:=Aa hp;clear hx hlt hv hel hp HIN hp1;go_wp2_with fail
    refine ER (fun q=>match q with | 14=>u14 | 68=>u68 | 69=>u69 | 70=>u70 | 71=>u71 | 72=>u72 | 73=>u73 | _=>undef)
     (fun f=>{tmps:=#[.agg #[.slice sa g.S.length sc,.slice aa g.A.length ac,.slice ta g.T.length tc],.int .i64 (src:Nat),.int .i64 (tgt:Nat),.slice ua inl.length uc,.pointer (some ⟨w.heap.size,0,none⟩),undef,undef,undef,u8,u9,.int IntKind.i64 ↑(Ad g),.slice (some ⟨bf,0,none⟩) (List.length F) cf,.slice (some ⟨bp,0,none⟩) (List.length F) cp,.int .i64 (i:Nat),f 14,u15,u16,u17,u18,.agg #[.slice sa g.S.length sc,.slice aa g.A.length ac,.slice ta g.T.length tc],.int IntKind.i64 ↑(Ad g),.int .i64 (src:Nat),.bool d1,.bool d1,.int .i64 (src:Nat),.int IntKind.i64 ↑(Ad g),.bool d2,.bool d5,.bool d5,.int .i64 (tgt:Nat),.bool d3,.bool d6,.bool d6,.int .i64 (tgt:Nat),.int IntKind.i64 ↑(Ad g),.bool d4,.bool d7,.bool d7,.slice ua inl.length uc,.int .i64 (src:Nat),.bool true,.bool false,.bool d7,.bool d7,.slice ua inl.length uc,.int .i64 (tgt:Nat),.bool true,.bool false,.bool d7,.int .i64 (src:Nat),.slice (some ⟨w3.heap.size,0,none⟩) 1 1,.slice (some ⟨w3.heap.size+1,0,none⟩) 1 1,.int .i64 (i:Nat),.slice (some ⟨bf,0,none⟩) (List.length F) cf,.int IntKind.i64 ↑(List.length F),.bool true,u56,u57,.slice (some ⟨bf,0,none⟩) (List.length F) cf,.int .i64 (i:Nat),.pointer (some ⟨bf,i,none⟩),.int .i64 (x:Nat),.int .i64 (tgt:Nat),.bool false,u64,u65,u66,u67,f 68,f 69,f 70,f 71,f 72,f 73,u74,u75,u76,u77,u78,u79,u80,u81,u82,u83,u84,u85,u86,u87,u88,u89,u90,u91,u92,u93,u94,u95,u96,u97,u98,u99,u100,u101,u102,u103,u104,u105,u106,u107,u108,u109,u110,u111,u112,u113,u114,u115,u116,u117,u118,u119,u120,u121,u122,u123,u124,u125,u126,u127,u128,u129,u130,u131,u132,u133,u134],defers:=[]}) (fun j=>if j=6 then 14 else j+68)
     (gD [.eq (.agg #[.slice sa g.S.length sc,.slice aa g.A.length ac,.slice ta g.T.length tc]),.eq (.slice (some ⟨bf,0,none⟩) (List.length F) cf),.eq (.int .i64 (i:Nat)),.eq (.pointer (some ⟨bf,i,none⟩)),.eq (.int .i64 (x:Nat)),.own wr.heap.size el,.own wr.heap.size el])
     rfl (by kernel_rfl) (fun i u w w' hb h=>RO.mono _ hb h) (by kernel_rfl) (by kernel_rfl) ?_ ?_ ?_
    ·intro j hj f v;rcases j with _ | _ | _ | _ | _ | _ | _ | j
     all_goals first | rfl | (simp at hj;omega)
    ·refine⟨?_,?_,?_,?_,?_,?_,?_,trivial⟩
     ·intro f w' hb hd K hK;obtain⟨e0,e1,e2⟩:=JN hb c0 c1 c2;dsimp only;go_simp;exact hK (.agg #[.slice sa g.S.length sc,.slice aa g.A.length ac,.slice ta g.T.length tc]) w' (Ak _ _) rfl
     ·intro f w' hb hd K hK;dsimp only;go_simp;exact hK (.slice (some ⟨bf,0,none⟩) (List.length F) cf) w' (Ak _ _) rfl
     ·intro f w' hb hd K hK;dsimp only;go_simp;exact hK (.int .i64 (i:Nat)) w' (Ak _ _) rfl
     ·intro f w' hb hd K hK;have h0:f 69=(.slice (some ⟨bf,0,none⟩) (List.length F) cf):=hd 1 (by kernel_rfl);have h1:f 70=(.int .i64 (i:Nat)):=hd 2 (by kernel_rfl);dsimp only;go_simp;have q:=hK (.pointer (some ⟨bf,i,none⟩)) w' (Ak _ _) rfl;simp only[h0,h1]at q;exact q
     ·intro f w' hb hd K hK;have h0:f 71=(.pointer (some ⟨bf,i,none⟩)):=hd 3 (by kernel_rfl);have e0:=Af hb hf1;dsimp only;go_simp;have q:=hK (.int .i64 (x:Nat)) w' (Ak _ _) rfl;simp only[h0]at q;exact q
     ·intro f w' hb hd K hK;have h0:f 68=(.agg #[.slice sa g.S.length sc,.slice aa g.A.length ac,.slice ta g.T.length tc]):=hd 0 (by kernel_rfl);have h1:f 72=(.int .i64 (x:Nat)):=hd 4 (by kernel_rfl);have HO:=Aa (HOC.out w' (HBW.out.trans (((Ak _ wr).drew.trans hb).mono HBW.out.size)));dsimp only;go_simp;go_wp2_with (go_at_call 31;refine HO.out.mono ?_;rintro e w2 ⟨lv,rfl,hE,hb2⟩)
      have q:=hK lv w2 hb2 (Gk hE hb.size);simp only[h0,h1]at q;exact q
     ·intro f w' hb hd K hK;have r0:w'.ownsRow wr.heap.size 54 3 (f 73) el.length (AA el):=hd 5 (by kernel_rfl);clear hd;dsimp only;go_simp;exact hK (f 73) w' (Ak _ _) r0
    ·intro f w' hb hr;have h14:w'.ownsRow wr.heap.size 54 3 (f 14) el.length (AA el):=hr 6 (by decide);obtain⟨ea,ec,e14⟩:=CQ h14;rw[e14]at h14;have HED:=Aa h14;have HI5:=Aa (HI.out.more hb);have HW5:=Aa hb;have hsz5:=hb.size;clear hr hb h14 c0 c1 c2 hf1 hp2;dsimp only;rw[e14];clear e14;generalize f 68=x68;generalize f 69=x69;generalize f 70=x70;generalize f 71=x71;generalize f 72=x72;generalize f 73=x73;obtain⟨WO,rfl⟩:∃z:World,z=wr:=⟨_,rfl⟩;clear HI hsz5;go_wp2_with fail
     go_loopg [11,12,15] el.length (fun fu fv pv c wr=>∃(k:Nat) (vals:List Value),k+fu=el.length∧c=.int .i64 k∧Hid (Qk w3 wr (EY inl el p F k) fv pv vals)∧Hid (wr.ownsRow WO.heap.size 54 3 (.slice ea el.length ec) el.length (AA el)))
     case atStart=>exact⟨0,vals,by omega,rfl,HI5,HED⟩
     case round=>
      clear HI5 HED;obtain⟨k,vals1,hk,rfl,IK,HED⟩:=hrel;have BK:=Aa (HE.out k (by omega));have hfl:=BK.out.len;have hk0:0<(EY inl el p F k).length:=BK.out.pos;obtain⟨hle,hget⟩:=HO5.out k (by omega);have hiK:i<(EY inl el p F k).length:=Nat.lt_of_lt_of_le HL.out hle;by_cases hlk:k<el.length
      ·have z2:(k:Int)<(el.length:Int):=by omega
       obtain⟨a',c',e',hcl⟩:=BC HED.out;simp only[Value.slice.injEq,true_and]at e';obtain⟨rfl,rfl⟩:=e';obtain⟨b3,o3,rfl,e1,e2,e3⟩:=hcl k hlk;have hrng:=HG.out k hlk;have VS:=Aa (HVS.out k hlk);have GI:=Aa (show((EY inl el p F k).getD i (0,[])).2=p by rw[hget i HL.out];exact HPP.out);have hpl:p.length≤100000:=by have:=BK.out.short i i (AQ _) hiK;rw[GI.out]at this;omega
       clear hcl hle hget;obtain⟨FN,hFN⟩:∃z,EY inl el p F (k+1)=z:=⟨_,rfl⟩;have HFN:=Aa hFN;rw[hFN]at VS;clear hFN;obtain⟨FK,hFK⟩:∃z,EY inl el p F k=z:=⟨_,rfl⟩;rw[hFK]at IK BK VS GI hiK hk0 hfl;clear hFK;obtain⟨bf1,cf1,bp1,cp1,rfl,rfl,hcf,hcp⟩:=IK.out.lit hk0;obtain⟨ed,hed⟩:∃z,el.getD k (0,0,0)=z:=⟨_,rfl⟩;rw[hed]at e1 e2 e3 hrng VS;obtain⟨ex,ey,ez⟩:=ed;obtain⟨zn,rfl⟩:∃z:Nat,ez=(z:Int):=⟨ez.toNat,by have:=hrng.1;dsimp only at this;omega⟩;have HEDK:=Aa hed;have HIZ:=Aa (fun(w':World) (hb:Below w.heap.size w w')=>HIS.out w' hb zn);obtain⟨ib,hib⟩:∃b,Cz inl (zn:Int)=b:=⟨_,rfl⟩;rw[hib]at HIZ;have HIB:=Aa hib;have HHK:=Aa hk0;have HIK:=Aa hiK;clear hib hrng hcf hcp hed hiK hk0;have HBW1:=Aa (B3.out.trans (IK.out.below.mono B3.out.size));go_wp2_with (go_at_call 78;refine(HIZ.out _ HBW1.out).mono ?_;rintro e w7 ⟨rfl,hb7⟩;have I7:=Aa (IK.out.more hb7);have ED7:=Aa (Al (F:=fun _=>False) HED.out (Df hb7 _) (fun _ _=>id));clear hb7)
       clear e1 e2 e3;go_loopg [16,17] (List.length FK) (fun fu hv c wr=>∃j:Nat,j+fu=FK.length∧c=.int .i64 j∧hv=.bool (!ib || Lg FK zn j)∧Hid (Qk w3 wr FK (.slice (some ⟨bf1,0,none⟩) FK.length cf1) (.slice (some ⟨bp1,0,none⟩) FK.length cp1) vals1)∧Hid (wr.ownsRow WO.heap.size 54 3 (.slice (some ⟨b3,o3,none⟩) el.length ec) el.length (AA el)))
       case atStart=>exact⟨0,by omega,rfl,by simp[Lg],I7,ED7⟩
       case round=>
        clear I7 ED7;obtain⟨j,hj,rfl,rfl,I8,ED8⟩:=hrel;obtain⟨a',c',e',hcl⟩:=BC ED8.out;simp only[Value.slice.injEq,true_and]at e';obtain⟨rfl,rfl⟩:=e';obtain⟨b4,o4,e4,e1,e2,e3⟩:=hcl k hlk;cases e4;rw[HEDK.out]at e1 e2 e3;obtain⟨bfx,cfx,bpx,cpx,q1,q2,hcf,hcp⟩:=I8.out.lit HHK.out;cases q1;cases q2;clear hcl;by_cases hjl:j<FK.length
        ·have z3:(j:Int)<(FK.length:Int):=by omega
         have f1:=hcf j hjl;have HS:=Aa (WY (F:=FK) (z:=(zn:Int)) hjl);obtain⟨y,hy⟩:∃y,(FK.getD j (0,[])).1=y:=⟨_,rfl⟩;rw[hy]at f1 HS;clear hy hcf hcp;cases hh:(!ib || Lg FK zn j)
         ·have HH:=Aa hh;clear hh;have hyz2:Hid ((!ib || Lg FK zn (j+1))=(y==(zn:Int))):=Aa (by rw[HS.out,← Bool.or_assoc,HH.out];rfl);cases hyz:(y==(zn:Int));all_goals
           rw[hyz]at hyz2;go_wp2_with fail
           (refine AI (by kernel_rfl) (by kernel_rfl) ?_;(repeat still_step);refine wpStill_nil ?_)
           go_wp2_with fail
           go_roundg (FK.length - (j+1))
           case measure=>omega
           case rel=>exact⟨j+1,by omega,by simp,by rw[hyz2.out],Aa I8.out.drew,Aa (Al (F:=fun _=>False) ED8.out (Df (Ak _ _).drew _) (fun _ _=>id))⟩
         ·have HH:=Aa hh;clear hh;have hyz2:Hid ((!ib || Lg FK zn (j+1))=true):=Aa (by rw[HS.out,← Bool.or_assoc,HH.out];rfl);go_wp2_with fail
          go_quiet (fail)
          go_wp2_with fail
          go_roundg (FK.length - (j+1))
          case measure=>omega
          case rel=>refine⟨j+1,by omega,by simp,by rw[hyz2.out],(by first | exact I8 | exact Aa I8.out.drew | exact Aa (I8.out.more (BD (Ak _ _) _))),(by first | exact ED8 | exact Aa (Al (F:=fun _=>False) ED8.out (Df (Ak _ _).drew _) (fun _ _=>id)) | exact Aa (Al (F:=fun _=>False) ED8.out (Df (BD (Ak _ _) _) _) (fun _ _=>id)))⟩
        ·obtain rfl:j=FK.length:=by omega
         cases hh:(!ib || Lg FK zn FK.length)
         ·have E1:Hid (FN=FK++[((zn:Int),p++[ey])]):=Aa (by
           rw[Bool.or_eq_false_iff]at hh;rw[VS.out];exact if_pos ⟨by rw[HIB.out];simpa using hh.1,Xu hh.2⟩)
          clear hh hcf;have HIN2:=Aa (DU (I8.out.po.inn i (by rw[Fi];exact HIK.out)));rw[Yy HIK.out,GI.out]at HIN2;obtain⟨ra,rc,hrv,-⟩:=id HIN2.out;have hp1:=hcp i HIK.out;rw[hrv]at hp1 HIN2;clear hcp hrv;have hw0:=I8.out.below.size;have HW0:=Aa hw0;clear hw0;go_wp2_with (first
           | (at_builtin;refine Jr (base:=wr.heap.size) (n:=0) (xs:=[]) (CO _ _ _ _) rfl (.tmp 109) (.tmp 113) rfl rfl rfl HIN2.out p.length (by omega) (by omega) (AQ _) ?_;intro a9 c9 w9 hown9 hgr9 hor9 hn9;have HB9:=Aa ((Ak wr.heap.size wr).grown hgr9 (AQ _) (fun q hq=>by cases hq));have O9:Hid (w9.ownsRow wr.heap.size 3 1 (.slice a9 p.length c9) p.length (p.map (Value.int .i64))):=Aa (by simpa using hown9);have f2:=Af HB9.out e2;clear hown9 hgr9 hor9 hn9)
           | (at_builtin;refine Jr (base:=wr.heap.size) (n:=p.length) (xs:=p) (O9.out.alloc _) rfl (.tmp 115) (.tmp 121) rfl rfl rfl (Ss w9 ey) (p.length+1) rfl (by omega) (by have:=HB9.out.size;simp;omega) ?_;intro a10 c10 w10 hown10 hgr10 hor10 hn10;have HB10:=Aa ((HB9.out.trans ((Ae w9 (.cells #[.int .i64 ey] 3)).mono HB9.out.size)).grown hgr10 (by have:=HB9.out.size;simp;omega) (fun q hq=>(O9.out.lt q hq).1));have O10:=Aa hown10;have I10:=Aa (I8.out.more HB10.out);have g3:=Af HB10.out e3;have ED10:=Aa (Al (F:=fun _=>False) ED8.out (Df HB10.out _) (fun _ _=>id));clear hown10 hgr10 hor10 hn10)
           | (at_builtin;refine wpList_append_lies (w10.alloc (.cells #[.int .i64 (zn:Nat)] 3)) rfl (.tmp 123) (.tmp 129) 22 rfl w3.heap.size 3 i0 (.int .i64 0) 1 8 Tryz.underlying22 hi0 hz0 hz1 hz2 rfl (by decide) (.slice (some ⟨bf1,0,none⟩) FK.length cf1) FK.length _ rfl (I10.out.fo.alloc _) ⟨w10.heap.size,0,none⟩ 1 1 [.int .i64 (zn:Nat)] rfl rfl (World.news_of_block (Ar _ _)) (by simp[Value.oneCell']) (by omega) (by unfold maxLen;omega) (by omega) (by have:=HB10.out.size;have:=HW0.out;simp;omega) (w10.heap.size+1) (by simp) ?_;intro g11 cap11 w11 hown11 hgr11 hor11 hlt11;have PO:=Aa (I10.out.paths hgr11);have ED11:=Aa (LF (ED10.out.alloc (.cells #[.int .i64 (zn:Nat)] 3)) (I10.out.fo.alloc (.cells #[.int .i64 (zn:Nat)] 3)) (by decide) hgr11);have HGR11:=Aa hgr11;have HO11:=Aa hown11;have HOR11:=Aa hor11;clear hown11 hgr11 hor11)
           | (at_builtin;refine wpList_append_lies (w11.alloc (.cells #[.slice a10 (p.length+1) c10] 22)) rfl (.tmp 131) (.tmp 133) 59 rfl w3.heap.size 22 j0 (.slice none 0 0) 1 24 Tryz.underlying59 hj0 hw0' hw1 hw2 rfl (by decide) (.slice (some ⟨bp1,0,none⟩) FK.length cp1) FK.length _ rfl (PO.out.1.alloc _) ⟨w11.heap.size,0,none⟩ 1 1 [.slice a10 (p.length+1) c10] rfl rfl (World.news_of_block (Ar _ _)) (by simp[Value.oneCell']) (by omega) (by unfold maxLen;omega) (by omega) (by have:=PO.out.2;simp;omega) (w11.heap.size+1) (by simp) ?_;intro g12 cap12 w12 hown12 hgr12 hor12 hlt12;have ED12:=Aa (LF (ED11.out.alloc (.cells #[.slice a10 (p.length+1) c10] 22)) (PO.out.1.alloc (.cells #[.slice a10 (p.length+1) c10] 22)) (by decide) hgr12);have I12:=Aa (I8.out.push (t:=(zn:Int)) (q:=p++[ey]) rfl HB10.out (by rw[Bs];exact O10.out) (by simp) HGR11.out HO11.out HOR11.out hgr12 hown12 hor12);clear hown12 hgr12 hor12))
          go_roundg (el.length - (k+1))
          case measure=>omega
          case rel=>exact⟨k+1,_,by omega,by simp,by rw[HFN.out,E1.out];exact I12,ED12⟩
         ·have E1:Hid (FN=FK):=Aa (by
           rw[VS.out];refine if_neg (fun q=>?_);rw[HIB.out]at q;rw[q.1]at hh;obtain⟨y,hy,e⟩:=WJ (by simpa using hh);exact q.2 y hy e)
          clear hh hcf hcp;go_wp2_with fail
          go_roundg (el.length - (k+1))
          case measure=>omega
          case rel=>exact⟨k+1,vals1,by omega,by simp,by rw[HFN.out,E1.out];exact I8,ED8⟩
      ·obtain rfl:k=el.length:=by omega
       have hst:=HO5.out el.length (AQ _);have h1:=HL.out;obtain⟨hle,-⟩:=hst;generalize EY inl el p F el.length=FK at*;clear HO5 HVS HG HE hget;have z2:¬(el.length:Int)<(el.length:Int):=by omega
       obtain⟨bf1,cf1,bp1,cp1,rfl,rfl,-,-⟩:=IK.out.lit hk0;go_wp2_with fail
       go_roundg (inl.length+1 - (i+1))
       case measure=>omega
       case rel=>exact⟨FK,i+1,vals1,by omega,by omega,by simp,IK,BK,E⟩
  ·have E:=Aa (show RES=none by rw[HR.out];exact Sl hlt);have z1:¬(i:Int)<(F.length:Int):=by omega
   clear hcf hcp;go_wp2_with fail
   refine Bd (v:=.tuple #[.slice none 0 0,.bool false]) (by simp[results,Tryz.results50,go_sem]) rfl ?_;exact⟨_,by rw[E.out];rfl,by rw[E.out];exact BM _,B3.out.trans (HI.out.below.mono B3.out.size)⟩
end Go.Proofs.YtlhpjfnfemebdaaGreat
