/-
  lasso's Cycle and Stops.
-/
import Derived.Test.YtlhpjfnfemebdaaGreatWalkYes
set_option maxRecDepth 100000
set_option maxHeartbeats 64000000
set_option linter.unusedSimpArgs false
namespace Go.Proofs.YtlhpjfnfemebdaaGreat
open Go.RowKit
noncomputable def Cc(g:Gr)(en:List (List Bool))(ag mode:Int)(part:List Int):WS:=if AU g en ag mode part=true then Gx g en mode (Aj (Ad g) part) (Ad g) (Ay part) ag.toNat else(0,[],[])
structure Vu(g:Gr)(en:List (List Bool))(ag mode:Int)(part:List Int):Prop where
 ok:eZ g en mode (Aj (Ad g) part) (Ad g) (Ay part) ag.toNat
 home:Cz (Aj (Ad g) part) (Ay part)=true∧0≤Ay part
 ne:0<part.length
theorem Ut(v u pv:Value)(g:Gr)(en:List (List Bool))(ag mode:Int)(part:List Int)(w:World)(h:Ao w v g)(hu:AO w u en)(hp:Am w pv part)(hl:part.length≤1000000)(hn:Ad g≤100000)(hgood:AU g en ag mode part=false):
 Calls Tryz.prog 32 #[v,u,.int .i64 ag,.int .i64 mode,pv] w fun e w'=>e=.returned (.tuple #[.pointer none,.bool false])∧Below w.heap.size w w':=by
 obtain⟨sa,aa,ta,sc,ac,tc,rfl,-⟩:=h.var;have HU:=Aa hu;have HPA:=Aa hp;obtain⟨ua,uc,rfl,-⟩:=hu;obtain⟨pa,pc,rfl,-⟩:=hp;have hb:=(Ae w (.cells #[.slice sa g.S.length sc,.slice aa g.A.length ac,.slice ta g.T.length tc] 32)).trans ((Ae (w.alloc (.cells #[.slice sa g.S.length sc,.slice aa g.A.length ac,.slice ta g.T.length tc] 32)) (.cells #[.slice ua en.length uc] 38)).mono (Ae w _).size);have B0:=Aa hb;have HG:=Aa (fun(w':World) (hb:Below w.heap.size w w')=>(by have:=Ve _ _ _ g en ag mode part w' (h.below hb) (HU.out.below hb) (HPA.out.below hb) hl hn;rwa [hgood]at this:Calls Tryz.prog 52 #[.agg #[.slice sa g.S.length sc,.slice aa g.A.length ac,.slice ta g.T.length tc],.slice ua en.length uc,.int .i64 ag,.int .i64 mode,.slice pa part.length pc] w' fun e w2=>e=.returned (.bool false)∧Below w'.heap.size w' w2));clear h hb HU HPA hgood;go_enter Tryz.func32,Tryz.ntmps32;go_wp2_with (go_at_call 52;refine(HG.out _ B0.out).mono ?_;rintro e w2 ⟨rfl,hb2⟩;have B1:=Aa (B0.out.trans (hb2.mono B0.out.size));clear hb2)
 refine Bd (v:=.tuple #[.pointer none,.bool false]) (by simp[results,Tryz.results32,go_sem]) rfl ?_;exact⟨rfl,B1.out⟩
theorem EP{g:Gr}{en:List (List Bool)}{ag mode:Int}{part:List Int}(h:AU g en ag mode part=true):ag=(ag.toNat:Int):=by
 have:=(CW.1 h).1.h0;omega
theorem Ji(v u pv:Value)(g:Gr)(en:List (List Bool))(ag mode:Int)(part:List Int)(w:World)(h:Ao w v g)(hu:AO w u en)(hp:Am w pv part)(hl:part.length≤1000000)(hn:Ad g≤100000)(hW:AU g en ag mode part=true→Vu g en ag mode part):
 Calls Tryz.prog 15 #[v,u,.int .i64 ag,.int .i64 mode,pv] w fun e w'=>∃rv,e=.returned (.tuple #[rv,.bool (AU g en ag mode part)])∧Am w' rv (Cc g en ag mode part).2.1∧Below w.heap.size w w':=by
 obtain⟨sa,aa,ta,sc,ac,tc,rfl,-⟩:=h.var;have hb:=Ae w (.cells #[.slice sa g.S.length sc,.slice aa g.A.length ac,.slice ta g.T.length tc] 32);have B0:=Aa hb;have HB:=Aa (h.below hb);have HUB:=Aa (hu.below hb);have HPB:=Aa (hp.below hb);obtain⟨ua,uc,rfl,-⟩:=hu;obtain⟨pa,pc,rfl,-⟩:=hp;unfold Cc;cases hgood:AU g en ag mode part
 ·have HC:=Aa (Ut _ _ _ g en ag mode part _ HB.out HUB.out HPB.out hl hn hgood);clear h hb hW hgood HB HUB HPB;go_enter Tryz.func15,Tryz.ntmps15;go_wp2_with (go_at_call 32;refine HC.out.mono ?_;rintro e w2 ⟨rfl,hb2⟩;have B1:=Aa (B0.out.trans (hb2.mono B0.out.size));clear hb2)
  refine Bd (v:=.tuple #[.slice none 0 0,.bool false]) (by simp[results,Tryz.results15,go_sem]) rfl ?_;exact⟨_,rfl,BM _,B1.out⟩
 ·have hag:=EP hgood;have hw:=hW hgood;rw[hag]at hgood;have HC:=Aa (Sx _ _ _ g en ag.toNat mode part _ HB.out HUB.out HPB.out hl hn hw.ne hgood hw.ok hw.home);rw[← hag]at HC;rw[if_pos rfl];clear h hb hW hgood HB HUB HPB hw hag;generalize Gx g en mode (Aj (Ad g) part) (Ad g) (Ay part) ag.toNat=WL at*;generalize Aj (Ad g) part=inl at*;go_enter Tryz.func15,Tryz.ntmps15;go_wp2_with (go_at_call 32;refine HC.out.mono ?_;rintro e w2 ⟨wb,ib,gS,gA,gT,wv,sv,rfl,hM⟩;have HM:=Aa hM;have c3:=Ab hM.hs 5 _ rfl;clear hM)
  obtain⟨wa,wc,rfl⟩:=CQ HM.out.rw;refine Bd (v:=.tuple #[.slice wa WL.2.1.length wc,.bool true]) (by simp[results,Tryz.results15,go_sem]) rfl ?_;exact⟨_,rfl,DU HM.out.rw,B0.out.trans (HM.out.below.mono B0.out.size)⟩
theorem VH(v u pv:Value)(g:Gr)(en:List (List Bool))(ag mode:Int)(part:List Int)(w:World)(h:Ao w v g)(hu:AO w u en)(hp:Am w pv part)(hl:part.length≤1000000)(hn:Ad g≤100000)(hW:AU g en ag mode part=true→Vu g en ag mode part):
 Calls Tryz.prog 16 #[v,u,.int .i64 ag,.int .i64 mode,pv] w (DC w (Cc g en ag mode part).2.2):=by
 obtain⟨sa,aa,ta,sc,ac,tc,rfl,-⟩:=h.var;have hb:=Ae w (.cells #[.slice sa g.S.length sc,.slice aa g.A.length ac,.slice ta g.T.length tc] 32);have B0:=Aa hb;have HB:=Aa (h.below hb);have HUB:=Aa (hu.below hb);have HPB:=Aa (hp.below hb);obtain⟨ua,uc,rfl,-⟩:=hu;obtain⟨pa,pc,rfl,-⟩:=hp;unfold Cc;cases hgood:AU g en ag mode part
 ·have HC:=Aa (Ut _ _ _ g en ag mode part _ HB.out HUB.out HPB.out hl hn hgood);clear h hb hW hgood HB HUB HPB;go_enter Tryz.func16,Tryz.ntmps16;go_wp2_with (go_at_call 32;refine HC.out.mono ?_;rintro e w2 ⟨rfl,hb2⟩;have B1:=Aa (B0.out.trans (hb2.mono B0.out.size));clear hb2)
  go_ret;exact⟨_,rfl,BM _,B1.out⟩
 ·have hag:=EP hgood;have hw:=hW hgood;rw[hag]at hgood;have HC:=Aa (Sx _ _ _ g en ag.toNat mode part _ HB.out HUB.out HPB.out hl hn hw.ne hgood hw.ok hw.home);rw[← hag]at HC;rw[if_pos rfl];clear h hb hW hgood HB HUB HPB hw hag;generalize Gx g en mode (Aj (Ad g) part) (Ad g) (Ay part) ag.toNat=WL at*;generalize Aj (Ad g) part=inl at*;go_enter Tryz.func16,Tryz.ntmps16;go_wp2_with (go_at_call 32;refine HC.out.mono ?_;rintro e w2 ⟨wb,ib,gS,gA,gT,wv,sv,rfl,hM⟩;have HM:=Aa hM;have c3:=Ab hM.hs 6 _ rfl;clear hM)
  obtain⟨sa',sc',rfl⟩:=CQ HM.out.rs;go_ret;exact⟨_,rfl,DU HM.out.rs,B0.out.trans (HM.out.below.mono B0.out.size)⟩
end Go.Proofs.YtlhpjfnfemebdaaGreat
