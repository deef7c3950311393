/-
  ref19's Cycle, whatever the part, and Stops. (Written by gen_rstops.py.)
-/
import Derived.Test.YtlhpjfnfemebdaaGreatRCycle
set_option linter.unusedSimpArgs false
namespace Go.Proofs.YtlhpjfnfemebdaaGreat
open Go.RowKit
noncomputable def Mc(g:Gr)(en:List (List Bool))(ag mode:Int)(part:List Int):List Int:=if AU g en ag mode part=true then Ph g en mode (Aj (Ad g) part) (Ay part) ag.toNat else []
structure dG(g:Gr)(en:List (List Bool))(ag mode:Int)(part:List Int):Prop where
 ok:fA g en mode (Aj (Ad g) part) (Ay part) ag.toNat
 home:Cz (Aj (Ad g) part) (Ay part)=true∧0≤Ay part
 ne:0<part.length
 len:(Mc g en ag mode part).length≤1000000
set_option maxRecDepth 100000 in
set_option maxHeartbeats 16000000 in
theorem WC(v u pv:Value)(g:Gr)(en:List (List Bool))(ag mode:Int)(part:List Int)(w:World)(h:Ao w v g)(hu:AO w u en)(hp:Am w pv part)(hl:part.length≤1000000)(hn:Ad g≤100000)(hgood:AU g en ag mode part=false):
 Calls Tryz.prog 27 #[v,u,.int .i64 ag,.int .i64 mode,pv] w fun e w'=>e=.returned (.tuple #[.slice none 0 0,.bool false])∧Below w.heap.size w w':=by
 obtain⟨sa,aa,ta,sc,ac,tc,rfl,-⟩:=h.var;have HU:=Aa hu;have HPA:=Aa hp;obtain⟨ua,uc,rfl,-⟩:=hu;obtain⟨pa,pc,rfl,-⟩:=hp;have hb:=Ae w (.cells #[.slice sa g.S.length sc,.slice aa g.A.length ac,.slice ta g.T.length tc] 32);have B0:=Aa hb;have HG:=Aa (fun(w':World) (hb:Below w.heap.size w w')=>(by have:=Si _ _ _ g en ag mode part w' (h.below hb) (HU.out.below hb) (HPA.out.below hb) hl hn;rwa [hgood]at this:Calls Tryz.prog 47 #[.agg #[.slice sa g.S.length sc,.slice aa g.A.length ac,.slice ta g.T.length tc],.slice ua en.length uc,.int .i64 ag,.int .i64 mode,.slice pa part.length pc] w' fun e w2=>e=.returned (.bool false)∧Below w'.heap.size w' w2));clear h hb HU HPA hgood;go_enter Tryz.func27,Tryz.ntmps27;go_wp2_with (go_at_call 47;refine(HG.out _ B0.out).mono ?_;rintro e w2 ⟨rfl,hb2⟩;have B1:=Aa (B0.out.trans (hb2.mono B0.out.size));clear hb2)
 refine Bd (v:=.tuple #[.slice none 0 0,.bool false]) (by simp[results,Tryz.results27,go_sem]) rfl ?_;exact⟨rfl,B1.out⟩
theorem Wc(v u pv:Value)(g:Gr)(en:List (List Bool))(ag mode:Int)(part:List Int)(w:World)(h:Ao w v g)(hu:AO w u en)(hp:Am w pv part)(hl:part.length≤1000000)(hn:Ad g≤100000)(hW:AU g en ag mode part=true→dG g en ag mode part):
 Calls Tryz.prog 27 #[v,u,.int .i64 ag,.int .i64 mode,pv] w fun e w'=>∃rv,e=.returned (.tuple #[rv,.bool (AU g en ag mode part)])∧w'.ownsRow w.heap.size 3 1 rv (Mc g en ag mode part).length ((Mc g en ag mode part).map (Value.int .i64))∧Below w.heap.size w w':=by
 unfold Mc;cases hgood:AU g en ag mode part
 ·refine(WC v u pv g en ag mode part w h hu hp hl hn hgood).mono ?_;rintro e w' ⟨rfl,hb⟩;exact⟨_,rfl,CO _ _ _ _,hb⟩
 ·have hag:=EP hgood;have hw:=hW hgood;rw[hag]at hgood;have HC:=TR v u pv g en ag.toNat mode part w h hu hp hl hn hw.ne hgood hw.ok hw.home;rw[← hag]at HC;rw[if_pos rfl];exact HC
end Go.Proofs.YtlhpjfnfemebdaaGreat
