/-
  The reference's Keep.
-/
import Derived.Test.YtlhpjfnfemebdaaGreatJStart
import Derived.Test.YtlhpjfnfemebdaaGreatKeep2
set_option maxRecDepth 100000
set_option maxHeartbeats 64000000
set_option linter.unusedSimpArgs false
namespace Go.Proofs.YtlhpjfnfemebdaaGreat
open Go.RowKit
theorem TH(f:Ed→Ed×Bool)(l:List Ed)(k:Nat)(hk:k<l.length):BA f (l.take (k+1))=BA f (l.take k)++if(f (l.getD k (0,0,0))).2=true then [(f (l.getD k (0,0,0))).1] else []:=by
 rw[List.take_add_one,Bf hk,Option.toList_some,Kf,Po];simp[List.getD,hk]
theorem Vy(v u:Value)(g:Gr)(il:List Bool)(w:World)(h:Ao w v g)(hR:Bj g=false):Calls Tryz.prog 93 #[v,u] w (EM w (Bg g il)):=by
 unfold Bg;rw[Lf hR];obtain⟨sa,aa,ta,sc,ac,tc,rfl,-⟩:=h.var;have hs:=Oz w #[.slice sa g.S.length sc,.slice aa g.A.length ac,.slice ta g.T.length tc];have HN:=Aa (FP _ g _ (h.below hs.below));rw[hR]at HN;have HS:=Aa hs;clear h hR hs;go_enter Tryz.func93,Tryz.ntmps93;go_wp2_with (first
  | (go_at_call 51;refine HN.out.mono ?_;rintro e w1 ⟨rfl,hb1⟩;have hs1:=HS.out.more hb1;obtain⟨r0,r1,r2⟩:=DY hs1.vr;obtain⟨g0,g1,g2⟩:=eP hs1.vr;have HS1:=Aa hs1;clear hb1 hs1))
 obtain⟨q1,q2,q3,q4,q5⟩:=HS1.out.ret (DB _);refine Bd (v:=.agg #[.slice none 0 0,.slice none 0 0,.slice none 0 0]) (by simp[results,Tryz.results93,go_sem,q1,q2,q3]) rfl ?_;exact⟨_,rfl,q4,q5⟩
theorem RU(v u:Value)(g:Gr)(il:List Bool)(w:World)(h:Ao w v g)(hu:Bc w u il)(hR:Rt g)(hil:il.length≤9223372036854775807):Calls Tryz.prog 93 #[v,u] w (EM w (Bg g il)):=by
 unfold Bg;rw[Fg hR];obtain⟨sa,aa,ta,sc,ac,tc,rfl,-⟩:=h.var;obtain⟨i0,hi0,hz0,hz1,hz2⟩:=CE Tryz.info54;have hs:=Oz w #[.slice sa g.S.length sc,.slice aa g.A.length ac,.slice ta g.T.length tc];have HN:=Aa (FP _ g _ (h.below hs.below));have HA:=Aa (fun w' (hw:Below w.heap.size w w')=>Ru _ g w' (h.below hw));have HNN:=Aa (fun w' (hw:Below w.heap.size w w')=>El _ g w' (h.below hw));have RI:=Aa (fun w' (hw:Below w.heap.size w w') i hi=>dX il i hi u w' (hu.below hw) hil);rw[(Aq g).2 hR]at HN;have hll:(Av g).length≤1000000:=by rw[Gd hR];exact h.sT
 have hpos:=Aa (fun k (hk:k<(Av g).length)=>show 0≤((Av g).getD k (0,0,0)).1∧0≤((Av g).getD k (0,0,0)).2.2 from by
  have e:(Av g).getD k (0,0,0)=(Av g)[k]:=by simp[List.getD,hk]
  have:=Bt hR (List.getElem_mem hk);rw[e];omega)
 have HS:=Aa hs;clear h hR hs hu hil;generalize Av g=l at*;generalize Ad g=nn at*;obtain⟨n,hn⟩:∃n,l.length=n:=⟨_,rfl⟩;have HLN:=Aa hn;clear hn;go_enter Tryz.func93,Tryz.ntmps93;go_wp2_with (first
  | (go_at_call 51;refine HN.out.mono ?_;rintro e w1 ⟨rfl,hb1⟩;have hs1:=HS.out.more hb1;obtain⟨a0,a1,a2⟩:=DY hs1.vg;have HS1:=Aa hs1;have hy1:=hs1.size;clear hb1 hs1)
  | (go_at_call 70;refine(HA.out _ HS1.out.below).mono ?_;rintro e w2 ⟨lv,rfl,ho,hb2⟩;have HS2:=Aa (HS1.out.more hb2);have hy2:=hb2.size;obtain⟨la,lc,rfl,hl⟩:=BC ho;have HL:=Aa hl;clear ho hl hb2 a0 a1 a2))
 have hn:=HLN.out;rw[hn]at hll;rw[hn];clear hn;go_loopg [6,7] n (fun fu s c wr=>∃k m:Nat,k+fu=n∧c=.int .i64 k∧m≤k∧Hid ((BA (CT il) (l.take k)).length=m)∧Mn w wr #[.slice sa g.S.length sc,.slice aa g.A.length ac,.slice ta g.T.length tc]∧Below w2.heap.size w2 wr∧wr.ownsRow w2.heap.size 54 3 s m (AA (BA (CT il) (l.take k))))
 case atStart=>exact⟨0,0,by omega,rfl,by omega,Aa (by simp[BA]),HS2.out,Ak _ _,⟨by simp[BA,AA],.inl ⟨rfl,rfl⟩⟩⟩
 case round=>
  clear HS2;obtain⟨k,m,hk,rfl,hmk,HM,hS,hb,ho⟩:=hrel;by_cases hlt:k<n
  ·obtain⟨b,off,rfl,d1,d2,d3⟩:=HL.out k (by have:=HLN.out;omega);obtain⟨y1,y2,y3⟩:=JN hb d1 d2 d3;obtain⟨p1,p2⟩:=hpos.out k (by have:=HLN.out;omega);have htake:=TH (CT il) l k (by have:=HLN.out;omega);have b1:(k:Int)<(n:Int):=by omega
   clear d1 d2 d3;generalize l.getD k (0,0,0)=e at*;obtain⟨x,y,z⟩:=e;have R1:=Aa (RI.out wr hS.below x p1);have R2:=Aa (RI.out wr hS.below z p2);have HS:=Aa hS;have HB:=Aa hb;have HO:=Aa ho;have hsz:=hb.size;have htake2:BA (CT il) (l.take (k+1))=BA (CT il) (l.take k)++if(Cz il x&&Cz il z)=true then [(x,y,z)] else []:=htake
   clear hS hb ho htake p1 p2;generalize Cz il x=bx at*;generalize Cz il z=bz at*;cases bx
   ·have HT:=Aa (show BA (CT il) (l.take (k+1))=BA (CT il) (l.take k) by rw[htake2];simp);clear htake2;go_wp2_with (first
     | (go_at_call_of 111 (Value.int .i64 x);refine R1.out.mono ?_;rintro e w' ⟨rfl,rfl⟩)
     | (go_at_call_of 111 (Value.int .i64 z);refine R2.out.mono ?_;rintro e w' ⟨rfl,rfl⟩))
    go_roundg (gk - 1)
    case measure=>omega
    case rel=>exact⟨k+1,m,by omega,by simp,by omega,Aa (by rw[HT.out];exact HM.out),HS.out,HB.out,by rw[HT.out];exact HO.out⟩
   ·cases bz
    ·have HT:=Aa (show BA (CT il) (l.take (k+1))=BA (CT il) (l.take k) by rw[htake2];simp);clear htake2;go_wp2_with (first
      | (go_at_call_of 111 (Value.int .i64 x);refine R1.out.mono ?_;rintro e w' ⟨rfl,rfl⟩)
      | (go_at_call_of 111 (Value.int .i64 z);refine R2.out.mono ?_;rintro e w' ⟨rfl,rfl⟩))
     go_roundg (gk - 1)
     case measure=>omega
     case rel=>exact⟨k+1,m,by omega,by simp,by omega,Aa (by rw[HT.out];exact HM.out),HS.out,HB.out,by rw[HT.out];exact HO.out⟩
    ·have HT:=Aa (show BA (CT il) (l.take (k+1))=BA (CT il) (l.take k)++[(x,y,z)] by rw[htake2];simp);clear htake2;go_wp2_with (first
      | (go_at_call_of 111 (Value.int .i64 x);refine R1.out.mono ?_;rintro e w' ⟨rfl,rfl⟩)
      | (go_at_call_of 111 (Value.int .i64 z);refine R2.out.mono ?_;rintro e w' ⟨rfl,rfl⟩)
      | (at_builtin;refine wpList_append_lies (wr.alloc (.cells #[.int .i64 x,.int .i64 y,.int .i64 z] 54)) rfl (.tmp 38) (.tmp 43) 55 rfl w2.heap.size 54 i0 (.agg #[.int .i64 0,.int .i64 0,.int .i64 0]) 3 24 Tryz.underlying55 hi0 hz0 hz1 hz2 rfl (by decide) u6 m (AA (BA (CT il) (l.take k))) rfl (HO.out.alloc _) ⟨wr.heap.size,0,none⟩ 1 1 [.int .i64 x,.int .i64 y,.int .i64 z] rfl rfl (World.news_of_block (Ar wr _)) (by simp[Value.oneCell']) (by omega) (by unfold maxLen;omega) (by omega) (by simp;omega) (wr.heap.size+1) (by simp) ?_;intro g2 cap2 w4 hown2 hgr2 hor2 hlt4;have HO4:=Aa hown2;have HB4:=Aa ((HB.out.alloc HB.out.size (.cells #[.int .i64 x,.int .i64 y,.int .i64 z] 54)).grown hgr2 (HB.out.alloc HB.out.size _).size (fun q hq=>(HO.out.lt q hq).1));have HS4:=Aa ((HS.out.more (Ae wr (.cells #[.int .i64 x,.int .i64 y,.int .i64 z] 54))).frm ((Bn.refl (fun q=>u6.ownBlock=some q) _).grown hgr2 (fun q hq _=>hq)) (fun q hq=>by have:=(HO.out.lt q hq).1;omega));clear hown2 hgr2 hor2))
     go_roundg (gk - 1)
     case measure=>omega
     case rel=>exact⟨k+1,m+1,by omega,by simp,by omega,Aa (by rw[HT.out,Bs];have:=HM.out;simp;omega),HS4.out,HB4.out,Jj HT.out HO4.out⟩
  ·obtain rfl:gk=0:=by omega
   obtain rfl:k=n:=by omega
   have hfull:l.take k=l:=by rw[← HLN.out];exact Ez
   rw[hfull]at HM ho;have hsv:∃a cap,u6=.slice a m cap:=by
    rcases ho.2 with⟨e,h0⟩ | ⟨g,cap,cur,e,-⟩
    ·exact⟨none,0,by rw[e,h0]⟩
    ·exact⟨_,cap,e⟩
   have HE:=Aa (BC (l:=BA (CT il) l) (by rw[HM.out];exact ho));obtain⟨ra,rc,rfl⟩:=hsv;have HS3:=Aa hS;obtain⟨a0,a1,a2⟩:=DY hS.vg;have HLL:Hid ((BA (CT il) l).length≤1000000):=Aa (by rw[HM.out];omega);clear ho hS hb hfull;go_wp2_with (first
    | (go_at_call 30;refine(HNN.out _ HS3.out.below).mono ?_;rintro e w4 ⟨rfl,hb4⟩;have HS4:=Aa (HS3.out.more hb4);have HE4:=Aa (HE.out.below hb4);clear hb4)
    | (go_at_call 14;refine(JT _ _ _ _ HE4.out HLL.out).mono ?_;rintro e w5 ⟨v5,rfl,hG,hb5⟩;have hs6:=(HS4.out.more hb5);obtain⟨s1,s2,s3,c1,c2,c3,rfl,-⟩:=hG.var;have HG:=Aa hG;have HS5:=Aa hs6;have hz5:=hs6.size;obtain⟨r0,r1,r2⟩:=DY hs6.vr;obtain⟨g0,g1,g2⟩:=eP hs6.vr;clear hb5 hG hs6))
   obtain⟨q1,q2,q3,q4,q5⟩:=HS5.out.ret HG.out;generalize Ai (nn:Nat) (BA (CT il) l)=G at*;obtain⟨t1,t2,t3⟩:=JN (Ae _ (.cells #[.slice s1 G.S.length c1,.slice s2 G.A.length c2,.slice s3 G.T.length c3] 32)) q1 q2 q3;refine Bd (v:=.agg #[.slice s1 G.S.length c1,.slice s2 G.A.length c2,.slice s3 G.T.length c3]) (by simp[results,Tryz.results93,go_sem,t1,t2,t3]) rfl ?_;exact⟨_,rfl,q4.below (Ae _ _),q5.trans ((Ae _ _).mono q5.size)⟩
theorem Yd(v u:Value)(g:Gr)(il:List Bool)(w:World)(h:Ao w v g)(hu:Bc w u il)(hil:il.length≤9223372036854775807):Calls Tryz.prog 93 #[v,u] w (EM w (Bg g il)):=by
 cases hr:Bj g
 ·exact Vy v u g il w h hr
 ·exact RU v u g il w h hu ((Aq g).1 hr) hil
end Go.Proofs.YtlhpjfnfemebdaaGreat
