/-
  ref17.groups: the walk. Groups and Within answer as the document says: plain.
-/
import Derived.Test.YtlhpjfnfemebdaaGreatGroupFns
import Derived.Test.YtlhpjfnfemebdaaGreatRefPartsW
import Derived.Test.YtlhpjfnfemebdaaGreatRKeep
set_option maxRecDepth 100000
set_option maxHeartbeats 64000000
set_option linter.unusedSimpArgs false
namespace Go.Proofs.YtlhpjfnfemebdaaGreat
open Go.RowKit
def OS(ps:List Int)(inn:Nat→Bool)(p:Nat):List (List Int):=Dw (((List.range p).map (fun p:Nat=>CR (fun k=>ps.getD k 0) inn ps.length (p:Int))).filter (fun r=>!r.isEmpty))
def VZ(ps:List Int)(inn:Nat→Bool):List (List Int):=OS ps inn ps.length
def Ny(ps:List Int)(inn:Nat→Bool)(i:Nat)(p:Int):List Int:=(CR (fun k=>ps.getD k 0) inn i p).map (fun k:Nat=>(k:Int))
theorem WU(ps:List Int)(inn:Nat→Bool)(p:Nat):OS ps inn (p+1)=if(Ny ps inn ps.length (p:Int)).length=0 then OS ps inn p else OS ps inn p++[Ny ps inn ps.length (p:Int)]:=by
 unfold OS Ny;rw[List.range_succ,Ec,List.filter_append];simp only[List.map_cons,List.map_nil,List.filter_cons,List.filter_nil,Fi];cases h:CR (fun k=>ps.getD k 0) inn ps.length (p:Int)
 ·simp
 ·simp[Dw]
theorem YT(ps:List Int)(inn:Nat→Bool)(p:Nat):(OS ps inn p).length≤p:=by
 unfold OS;rw[FW];refine CP (List.length_filter_le _ _) (by simp)
theorem VY(ps:List Int)(inn:Nat→Bool)(i:Nat)(p:Int):Ny ps inn (i+1) p=if ps.getD i 0=p∧inn i=true then Ny ps inn i p++[(i:Int)] else Ny ps inn i p:=by
 unfold Ny;rw[EX];by_cases h1:ps.getD i 0=p
 ·cases h2:inn i
  ·simp
  ·simp only[Ck h1,Bool.and_self,if_true];rw[if_pos (show ps.getD i 0=p∧True from⟨h1,trivial⟩)];simp
 ·have:¬(ps.getD i 0=p∧inn i=true):=fun h=>h1 h.1;rw[if_neg this];simp only[Cj h1,Bool.and_false];simp
theorem Yo(ps:List Int)(inn:Nat→Bool)(i:Nat)(p:Int):(Ny ps inn i p).length≤i:=by
 unfold Ny;rw[Fi];exact KU i p
theorem CQ{w:World}{base:Nat}{e:TypeId}{size:Nat}{v:Value}{n:Nat}{xs:List Value}(h:w.ownsRow base e size v n xs):∃a c,v=.slice a n c:=by
 rcases h.2 with⟨rfl,e⟩ | ⟨g,cap,cur,rfl,-⟩
 ·exact⟨none,0,by rw[e]⟩
 ·exact⟨_,cap,rfl⟩
theorem BS.pushNew {wr1 wr w':World} {base:Nat} {ov nv:Value} {rows:List (List Int)} {vals:List Value} {row:List Int} {rl g cap:Nat} {o:Obj} (h:BS wr1 base ov rows vals) (hrl:rows.length=rl) (hbase:base≤wr1.heap.size) (hb:Below wr1.heap.size wr1 wr)
 (ho:wr.ownsRow wr1.heap.size 3 1 nv row.length (row.map (Value.int .i64))) (hg:(wr.alloc o).grownBy w' ov.ownBlock) (hor:ov.ownBlock=some g∨g=wr.heap.size+1)
 (hown:w'.ownsRow base 22 1 (.slice (some ⟨g,0,none⟩) (rl+1) cap) (rl+1) (vals++[nv])):BS w' base (.slice (some ⟨g,0,none⟩) (rl+1) cap) (rows++[row]) (vals++[nv]):=by
 subst hrl;refine((h.more (hb.trans ((Ae wr o).mono hb.size))).push hg (by simpa using hor) hown (Gk (ho.alloc o) hbase) (fun q hq e=>?_) (fun j hj q hq e=>?_))
 ·have h1:=(ho.lt q hq).1;have h2:=(h.out.lt q e).2;omega
 ·have h1:=(ho.lt q hq).1;have h2:=((h.inn j hj).lt q e).2;omega
theorem NP(v u:Value)(ps:List Int)(l:List Bool)(w:World)(h:Am w v ps)(hu:Bc w u l)(hn:ps.length≤1000000)(hl:l.length≤1000000):
 Calls Tryz.prog 72 #[v,u] w (GX w (VZ ps (fun i=>l.getD i false))):=by
 obtain⟨i0,hi0,hz0,hz1,hz2⟩:=CE (Tryz.info3);obtain⟨j0,hj0,hw0,hw1,hw2⟩:=CE Tryz.info22;obtain⟨pa,pc,rfl,hp⟩:=h;obtain⟨ba,bc,rfl,hb⟩:=hu;have HP:=Aa hp;have HB:=Aa hb;have RS:=Aa (fun p=>WU ps (fun i=>l.getD i false) p);have RL:=Aa (fun p=>YT ps (fun i=>l.getD i false) p);have WS:=Aa (fun i p=>VY ps (fun i=>l.getD i false) i p);have WL:=Aa (fun i p=>Yo ps (fun i=>l.getD i false) i p);have W0:Hid (∀p,Ny ps (fun i=>l.getD i false) 0 p=[]):=Aa (fun p=>rfl);have R0:Hid (OS ps (fun i=>l.getD i false) 0=[]):=Aa rfl;unfold VZ;clear hp hb;generalize OS ps (fun i=>l.getD i false)=RR at*;generalize Ny ps (fun i=>l.getD i false)=WW at*;obtain⟨n,hnn⟩:∃n,ps.length=n:=⟨_,rfl⟩;rw[hnn]at HP hn RS ⊢;clear hnn;go_enter Tryz.func72,Tryz.ntmps72;go_wp2_with fail
 go_loopg [5,6] n (fun fu ov c wr=>∃(p:Nat) (vals:List Value),p+fu=n∧c=.int .i64 p∧Hid (Below w.heap.size w wr)∧Hid (BS wr w.heap.size ov (RR p) vals))
 case atStart=>exact⟨0,[],by omega,rfl,Aa (Ak _ _),Aa (by rw[R0.out];exact Pw _ _)⟩
 case round=>
  obtain⟨p,vals,hpf,rfl,HBW,HM⟩:=hrel;obtain⟨oa,oc,rfl⟩:=HM.out.var;by_cases hlt:p<n
  ·have i1:(p:Int)<(n:Int):=by omega
   obtain⟨wr1,rfl⟩:∃z:World,z=wr:=⟨_,rfl⟩;go_wp2_with fail
   go_loopg [7,8] n (fun fu lv c wr=>∃i:Nat,i+fu=n∧c=.int .i64 i∧Hid (Below wr1.heap.size wr1 wr)∧Hid (wr.ownsRow wr1.heap.size 3 1 lv (WW i (p:Int)).length ((WW i (p:Int)).map (Value.int .i64))))
   case atStart=>exact⟨0,by omega,rfl,Aa (Ak _ _),Aa (by rw[W0.out];exact CO _ _ _ _)⟩
   case round=>
    obtain⟨i,hif,rfl,HB2,HO⟩:=hrel;by_cases hlt2:i<n
    ·have j1:(i:Int)<(n:Int):=by omega
     obtain⟨b1,o1,rfl,d1⟩:=HP.out i hlt2;have y1:=Af (HBW.out.trans (HB2.out.mono HBW.out.size)) d1;have hws:=WS.out i (p:Int);have hwl:=WL.out i (p:Int);clear d1;generalize ps.getD i 0=x at*;obtain⟨row,hrow⟩:∃r,WW i (p:Int)=r:=⟨_,rfl⟩;rw[hrow]at hws hwl HO;have HWS:=Aa hws;clear hws hrow;by_cases hx:x=(p:Int)
     ·by_cases hil:i<l.length
      ·have j2:(i:Int)<(l.length:Int):=by omega
       obtain⟨b2,o2,rfl,d2⟩:=HB.out i hil;have y2:=Af (HBW.out.trans (HB2.out.mono HBW.out.size)) d2;clear d2;cases hb:l.getD i false
       ·rw[hb]at y2 HWS;have E:Hid (WW (i+1) (p:Int)=row):=Aa (by rw[HWS.out,if_neg (by simp)]);go_wp2_with fail
        go_roundg (n - (i+1))
        case measure=>omega
        case rel=>exact⟨i+1,by omega,by simp,HB2,Aa (by rw[E.out];exact HO.out)⟩
       ·rw[hb]at y2 HWS;have E:Hid (WW (i+1) (p:Int)=row++[(i:Int)]):=Aa (by rw[HWS.out,if_pos ⟨hx,rfl⟩]);go_wp2_with (at_builtin;refine wpList_append_lies (wr.alloc (.cells #[.int .i64 i] 3)) rfl (.tmp 39) (.tmp 41) 22 rfl wr1.heap.size 3 i0 (.int .i64 0) 1 8 Tryz.underlying22 hi0 hz0 hz1 hz2 rfl (by decide) u7 row.length _ rfl (HO.out.alloc _) ⟨wr.heap.size,0,none⟩ 1 1 [.int .i64 i] rfl rfl (World.news_of_block (Ar _ _)) (by simp[Value.oneCell']) (by omega) (by unfold maxLen;omega) (by omega) (by have:=HB2.out.size;simp;omega) (wr.heap.size+1) (by simp) ?_;intro g3 cap3 w3 hown3 hgr3 hor3 hlt3;have HO3:=Aa hown3;have HB3:=Aa (Below.own HB2.out HO.out hgr3);clear hown3 hgr3 hor3)
        go_roundg (n - (i+1))
        case measure=>omega
        case rel=>exact⟨i+1,by omega,by simp,HB3,Aa (by rw[E.out,Bs,Ec];exact HO3.out)⟩
      ·have j2:¬(i:Int)<(l.length:Int):=by omega
       have E:Hid (WW (i+1) (p:Int)=row):=Aa (by rw[HWS.out,if_neg (by rw[AM,List.getElem?_eq_none (by omega)];simp)]);go_wp2_with fail
       go_roundg (n - (i+1))
       case measure=>omega
       case rel=>exact⟨i+1,by omega,by simp,HB2,Aa (by rw[E.out];exact HO.out)⟩
     ·have E:Hid (WW (i+1) (p:Int)=row):=Aa (by rw[HWS.out,if_neg (fun q=>hx q.1)]);go_wp2_with fail
      go_roundg (n - (i+1))
      case measure=>omega
      case rel=>exact⟨i+1,by omega,by simp,HB2,Aa (by rw[E.out];exact HO.out)⟩
    ·obtain rfl:i=n:=by omega
     obtain⟨row,hrow⟩:∃r,WW i (p:Int)=r:=⟨_,rfl⟩;have hrs:=RS.out p;have hwl:=WL.out i (p:Int);rw[hrow]at HO hrs hwl;have HRS:=Aa hrs;obtain⟨la,lc,rfl⟩:=CQ HO.out;obtain⟨rl,hrl⟩:∃z,(RR p).length=z:=⟨_,rfl⟩;have hrlp:rl≤p:=by rw[← hrl];exact RL.out p
     have HRL:=Aa hrl;rw[hrl]at HM ⊢;clear hrow hrs hrl;by_cases hz:row.length=0
     ·have E:=Aa (show RR (p+1)=RR p by rw[HRS.out,if_pos hz]);have hz2:¬(0:Int)<(row.length:Int):=by omega
      have HZ:=Aa hz;clear hz;go_wp2_with fail
      go_roundg (i - (p+1))
      case measure=>omega
      case rel=>exact⟨p+1,vals,by omega,by simp,Aa (HBW.out.trans (HB2.out.mono HBW.out.size)),Aa (by rw[E.out];exact HM.out.more HB2.out)⟩
     ·have E:=Aa (show RR (p+1)=RR p++[row] by rw[HRS.out,if_neg hz]);have hz2:(0:Int)<(row.length:Int):=by omega
      have hm2:=(HM.out.more HB2.out).out;rw[HRL.out]at hm2;have HM2:=Aa hm2;clear hm2;go_wp2_with (at_builtin;refine wpList_append_lies (wr.alloc (.cells #[.slice la row.length lc] 22)) rfl (.tmp 46) (.tmp 48) 59 rfl w.heap.size 22 j0 (.slice none 0 0) 1 24 Tryz.underlying59 hj0 hw0 hw1 hw2 rfl (by decide) (.slice oa rl oc) rl vals rfl (HM2.out.alloc _) ⟨wr.heap.size,0,none⟩ 1 1 [.slice la row.length lc] rfl rfl (World.news_of_block (Ar _ _)) (by simp[Value.oneCell']) (by omega) (by unfold maxLen;omega) (by omega) (by have:=HB2.out.size;have:=HBW.out.size;simp;omega) (wr.heap.size+1) (by simp) ?_;intro g3 cap3 w3 hown3 hgr3 hor3 hlt3;have HM3:=Aa (HM.out.pushNew HRL.out HBW.out.size HB2.out HO.out hgr3 hor3 hown3);have HB3:=Aa (Below.own (HBW.out.trans (HB2.out.mono HBW.out.size)) HM2.out hgr3);clear hown3 hgr3 hor3)
      go_roundg (i - (p+1))
      case measure=>omega
      case rel=>exact⟨p+1,_,by omega,by simp,HB3,Aa (by rw[E.out];exact HM3.out)⟩
  ·obtain rfl:p=n:=by omega
   go_wp2_with fail
   go_ret;exact⟨_,rfl,HM.out.at,HBW.out⟩
noncomputable def Ks(g:Gr):List (List Int):=VZ (Be g) (fun i=>(List.replicate (Ad g) true).getD i false)
noncomputable def Oo(g:Gr)(l:List Bool):List (List Int):=VZ (Be (Bg g l)) (fun i=>l.getD i false)
theorem Mf(v u:Value)(g:Gr)(l:List Bool)(w:World)(h:Ao w v g)(hu:Bc w u l)(hl:l.length≤1000000):Calls Tryz.prog 76 #[v,u] w (GX w (Oo g l)):=by
 obtain⟨sa,aa,ta,sc,ac,tc,rfl,-⟩:=h.var;have hb:=Ae w (.cells #[.slice sa g.S.length sc,.slice aa g.A.length ac,.slice ta g.T.length tc] 32);have KK:=Aa (Yd _ _ g l _ (h.below hb) (hu.below hb) (by omega));have HU:=Aa (fun(w':World) (hw:Below w.heap.size w w')=>hu.below hw);have HB:=Aa hb;have X0:=Aa (Ar w (.cells #[.slice sa g.S.length sc,.slice aa g.A.length ac,.slice ta g.T.length tc] 32));have HL:=Aa hl;have HKN:=Aa (Hx g l);clear h hb hu;go_enter Tryz.func76,Tryz.ntmps76;go_wp2_with (first
  | (go_at_call 93;refine KK.out.mono ?_;rintro e w1 ⟨kv,rfl,hK,hb1⟩;have HK:=Aa hK;have HB1:=Aa (HB.out.trans (hb1.mono HB.out.size));clear hK hb1)
  | (go_at_call 71;refine(PT _ _ _ HK.out HKN.out).mono ?_;rintro e w2 ⟨rv,rfl,hI,hb2⟩;have HI:=Aa hI;have HB2:=Aa (HB1.out.trans (hb2.mono HB1.out.size));clear hI hb2)
  | (go_at_call 72;refine(NP _ _ (Be (Bg g l)) l w2 HI.out (HU.out _ HB2.out) (by rw[BN];have:=HKN.out;omega) HL.out).mono ?_;rintro e w3 ⟨rv2,rfl,hr,hb3⟩;have HR:=Aa hr;have HB3:=Aa (HB2.out.trans (hb3.mono HB2.out.size));clear hr hb3))
 go_ret;exact⟨_,rfl,HR.out,HB3.out⟩
theorem Ro(n k:Nat):(BV n (fun i=>decide (i<k))).set k true=BV n (fun i=>decide (i<k+1)):=by
 rw[Gq];refine Cs fun x hx=>?_;by_cases e:x=k
 ·rw[e,AS];simp
 ·rw[AE _ _ _ _ e];have:(x<k)↔(x<k+1):=by omega
  simp[this]
theorem Tj(v:Value)(g:Gr)(w:World)(h:Ao w v g)(hn:Ad g≤100000):Calls Tryz.prog 43 #[v] w (GX w (Ks g)):=by
 obtain⟨sa,aa,ta,sc,ac,tc,rfl,-⟩:=h.var;have hb:=Ae w (.cells #[.slice sa g.S.length sc,.slice aa g.A.length ac,.slice ta g.T.length tc] 32);have PP:=Aa (PT _ g _ (h.below hb) hn);have HB:=Aa hb;have X0:=Aa (Ar w (.cells #[.slice sa g.S.length sc,.slice aa g.A.length ac,.slice ta g.T.length tc] 32));have PL:=Aa (BN g);clear h hb;unfold Ks;obtain⟨n,hnn⟩:∃n,Ad g=n:=⟨_,rfl⟩;generalize Be g=pl at*;rw[hnn]at hn PL ⊢;clear hnn;go_enter Tryz.func43,Tryz.ntmps43;go_wp2_with (first
  | (go_at_call 71;refine PP.out.mono ?_;rintro e w1 ⟨rv,rfl,hI,hb1⟩;have HI:=Aa hI;obtain⟨ra,rc,rfl,-⟩:=hI;rw[PL.out];have HB1:=Aa (HB.out.trans (hb1.mono HB.out.size));clear hb1)
  | (at_make;refine BE _ rfl (.tmp 9) (.tmp 9) 56 rfl 4 (.bool false) rfl 1 Tryz.underlying56 Tryz.info4 .i64 .i64 (n:Nat) (n:Nat) n rfl rfl rfl rfl (by omega) (by unfold maxLen;omega) ?_;intro w3 hh3 hb3 hlt3;have HB3:=Aa hb3;have HH3:=Aa hh3;clear hb3 hh3))
 have HH4:Hid (w3.heap[w1.heap.size]?=some (.cells (bools (BV n (fun i=>decide (i<0)))) 4 (0,0))):=Aa (by
  rw[HH3.out,← BJ];have:BV n (fun i=>decide (i<0))=List.replicate n false:=by unfold BV;simp[List.map_const']
  rw[this])
 have HI2:=Aa (fun(w':World) (hw:Below w1.heap.size w1 w')=>HI.out.below hw);go_loopg [5] n (fun fu c wr=>∃k:Nat,k+fu=n∧c=.int .i64 k∧Below w1.heap.size w1 wr∧wr.heap[w1.heap.size]?=some (.cells (bools (BV n (fun i=>decide (i<k)))) 4 (0,0)))
 case atStart=>exact⟨0,by omega,rfl,HB3.out,HH4.out⟩
 case round=>
  clear HH3 HH4 HB3;obtain⟨k,hk,rfl,hb,hh⟩:=hrel;by_cases hlt:k<n
  ·have z:(k:Int)<(n:Int):=by omega
   have c0:=Ab hh k _ (Co _ k (by rw[AJ];exact hlt));have f0:=Ag hh k;have HX:Hid ((wr.setCell ⟨w1.heap.size,k,none⟩ (.bool true)).heap[w1.heap.size]?=some (.cells (bools (BV n (fun i=>decide (i<k+1)))) 4 (0,0))):=Aa (by
    rw[Ac hh,EW,Ro n k])
   have HY:=Aa (hb.setCell (p:=⟨w1.heap.size,k,none⟩) (AQ _) (.bool true));clear hh hb;generalize (BV n _).getD k false=vb at*;go_wp2_with fail
   go_roundg (n - (k+1))
   case measure=>omega
   case rel=>exact⟨k+1,by omega,by simp,HY.out,HX.out⟩
  ·obtain rfl:k=n:=by omega
   have e:BV k (fun i=>decide (i<k))=List.replicate k true:=by
    have:BV k (fun i=>decide (i<k))=BV k (fun _=>true):=Cs fun x hx=>Ck hx;rw[this];unfold BV;simp[List.map_const']
   rw[e]at hh;have HR:=Aa (NP _ _ pl (List.replicate k true) wr (HI2.out wr hb) (CH (n:=k) hh (by simp) k) (by rw[PL.out];omega) (by simp;omega));have HBX:=Aa (HB1.out.trans (hb.mono HB1.out.size));rw[PL.out]at HR;clear hh hb e;go_wp2_with (go_at_call 72;refine HR.out.mono ?_;rintro e w4 ⟨rv2,rfl,hr,hb4⟩;have HR4:=Aa hr;have HB4:=Aa (HBX.out.trans (hb4.mono HBX.out.size));clear hr hb4)
   go_ret;exact⟨_,rfl,HR4.out,HB4.out⟩
section
variable {α β:Type} [DecidableEq α] [DecidableEq β]
theorem IW{γ:Type}{p q:γ→Bool}{l:List γ}(h:∀x∈l,p x=q x):l.filter p=l.filter q:=List.filter_congr h
theorem Dz{p q:Prop}[Decidable p][Decidable q](h:p↔q):decide p=decide q:=by
 by_cases hp:p
 ·rw[Ck hp,Ck (h.1 hp)]
 ·rw[Cj hp,Cj (fun q=>hp (h.2 q))]
theorem XD{q:Nat→α}{q':Nat→β}{inn inn':Nat→Bool}{n:Nat}(h:∀i j,i<n→j<n→(q i=q j↔q' i=q' j))(hi:∀i,i<n→inn i=inn' i){i:Nat}(hin:i<n):OG q inn i=OG q' inn' i:=by
 have e:OG q inn i=true↔OG q' inn' i=true:=by
  rw[Cx,Cx,hi i hin];refine and_congr_right fun _=>?_;constructor
  ·intro hh k hk hk2 e;exact hh k hk (by rw[hi k (by omega)];exact hk2) ((h k i (by omega) hin).2 e)
  ·intro hh k hk hk2 e;exact hh k hk (by rw[← hi k (by omega)];exact hk2) ((h k i (by omega) hin).1 e)
 cases h1:OG q inn i <;> cases h2:OG q' inn' i <;> simp[h1,h2]at e ⊢
theorem XJ{q:Nat→α}{q':Nat→β}{inn inn':Nat→Bool}{n:Nat}(h:∀i j,i<n→j<n→(q i=q j↔q' i=q' j))(hi:∀i,i<n→inn i=inn' i):Ii q inn n=Ii q' inn' n:=by
 have e1:Bm q inn n=Bm q' inn' n:=IW fun i hin=>XD h hi (Cg.1 hin);unfold Ii;rw[e1];refine List.map_congr_left fun j hj=>?_;have hj:=(BP.1 hj).1;refine IW fun k hk=>?_;have hk:=Cg.1 hk;rw[hi k hk,Dz (h k j hk hj)]
end
theorem Vi{g:Gr}{inn inn':Nat→Bool}(hi:∀i,i<Ad g→inn i=inn' i)(hm:∀i j,i<j→j<Ad g→OG (DR g) inn i=true→OG (DR g) inn j=true→DR g i<DR g j):
 Og (Be g) inn=VZ (Be g) inn':=by
 unfold Og VZ OS;rw[BN]
 congr 1
 have e1:Ii (fun k=>(Be g).getD k 0) inn (Ad g)=Ii (DR g) inn (Ad g):=XJ (fun i j hi hj=>by
  show(Be g).getD i 0=(Be g).getD j 0↔_;rw[DA hi,DA hj];omega) (fun _ _=>rfl)
 rw[e1,bV (fun k hk _=>Rw hk) hm]
 congr 1
 refine List.map_congr_left fun p _=>IW fun k hk=>?_;have hk:=Cg.1 hk;rw[hi k hk]
 congr 1
 refine Dz ?_;show _↔(Be g).getD k 0=_;rw[DA hk];exact⟨fun h=>by have h':DR g k=p:=h;rw[h'],fun h=>show DR g k=p by omega⟩
theorem Mh{g:Gr}{i k:Nat}(hi:∀j,j<i→DR g j≠DR g i)(hk:k<i):DR g k<DR g i:=by
 refine Wo (fun j hj e=>hi j hj ?_) hk;rw[II,← QS];exact e.symm
theorem Pg(g:Gr):Cd g=Ks g:=by
 refine Vi (fun i hi=>?_) (fun i j hij hj _ hf=>?_)
 ·simp[hi]
 ·exact Mh (fun k hk=>(Cx.1 hf).2 k hk rfl) hij
theorem Tw{g:Gr}{l:List Bool}{e:Ed}(h:e∈Av (Bg g l)):Cz l e.1=true∧Cz l e.2.2=true:=by
 have h0:Av (⟨[],[],[]⟩:Gr)=[]:=Gf (AZ (fun hR=>by have:=hR.ne;simp at this));cases hr:Bj g
 ·unfold Bg at h;rw[Lf hr,h0]at h;cases h
 ·have hR:=(Aq g).1 hr;unfold Bg at h;rw[Fg hR]at h;cases hb:AY (Ad g:Nat) (BA (CT l) (Av g))
  ·rw[Ia hb,h0]at h;cases h
  ·rw[Jt hb,Gp hb]at h;unfold BA at h;obtain⟨e',he,rfl⟩:=DJ.1 h;have:=(List.mem_filter.1 he).2;simpa[CT]using this
theorem Zo{E:Nat→Nat→Prop}{i k:Nat}(h:Io E i k)(hne:i≠k):∃x,E x k:=by
 cases h with
 | refl=>exact absurd rfl hne
 | step _ he=>exact⟨_,he⟩
theorem Le(g:Gr)(l:List Bool):Aw g l=Oo g l:=by
 refine Vi (fun i _=>rfl) (fun i j hij hj _ hf=>?_);refine Mh (fun k hk e=>?_) hij;have hsc:=II.1 e;obtain⟨x,ed,he,-,h2⟩:=Zo hsc.2 (fun q=>by omega);have:=(Tw he).2;rw[h2]at this;have hin:l.getD k false=true:=by
  unfold Cz at this;simpa using(Ci _ _▸this).2
 exact(Cx.1 hf).2 k hk hin e
end Go.Proofs.YtlhpjfnfemebdaaGreat
