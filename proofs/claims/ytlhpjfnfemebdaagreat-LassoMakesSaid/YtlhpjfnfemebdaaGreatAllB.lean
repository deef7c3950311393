/-
  All that can be reached, of any unit: or an error.
-/
import Derived.Test.YtlhpjfnfemebdaaGreatAll
import Derived.Test.YtlhpjfnfemebdaaGreatJMachP
set_option maxRecDepth 100000
set_option maxHeartbeats 64000000
set_option linter.unusedSimpArgs false
namespace Go.Proofs.YtlhpjfnfemebdaaGreat
open Go.RowKit
theorem VG(uv:Value)(u:DG)(w:World)(hu:Ma w uv u)(hR:Bi u=false)(hL:Sn u):
 Calls Tryz.prog 17 #[uv] w fun r w'=>r=.returned (.tuple #[.agg #[.slice none 0 0,.slice none 0 0,.slice none 0 0,.slice none 0 0],.int .i64 8])∧Below w.heap.size w w':=by
 have HR:=Aa (fun(w':World) (hb:Below w.heap.size w w')=>(by have:=Lo uv u w' (hu.below hb) hL;rwa [hR]at this:Calls Tryz.prog 22 #[uv] w' fun e w2=>e=.returned (.bool false)∧Below w'.heap.size w' w2));obtain⟨ia,ic,ga,gc,ca,cc,rfl,-⟩:=hu.var;clear hu hR hL;have S0:=Aa (OT.start w #[.int .i64 u.mod,.slice ia u.init.length ic,.slice ga u.regs.length gc,.slice ca u.code.length cc] 25 #[.slice none 0 0,.slice none 0 0,.slice none 0 0,.slice none 0 0] 62);go_enter Tryz.func17,Tryz.ntmps17;go_wp2_with (go_at_call 22;refine(HR.out _ S0.out.below).mono ?_;rintro e1 w2 ⟨rfl,hb2⟩;have S2:=Aa (S0.out.more hb2);clear hb2;obtain⟨r0,r1,r2,r3⟩:=BX S2.out.blk2;obtain⟨q0,q1,q2,q3⟩:=Nx S2.out.blk2)
 have KB:=Ac (i:=3) (v:=.slice none 0 0) (Ac (i:=2) (v:=.slice none 0 0) (Ac (i:=1) (v:=.slice none 0 0) (Ac (i:=0) (v:=.slice none 0 0) S2.out.blk2)));obtain⟨y0,y1,y2,y3⟩:=BX KB;have low:=S2.out.below;have h0:w.heap.size≤w.heap.size+1:=by omega
 refine Bd (v:=.tuple #[.agg #[.slice none 0 0,.slice none 0 0,.slice none 0 0,.slice none 0 0],.int .i64 8]) (by simp[results,Tryz.results17,go_sem,y0,y1,y2,y3]) rfl ?_;exact⟨rfl,(((((low.setCell (p:=⟨(w.heap.size+1),0,none⟩) h0 (.slice none 0 0)).setCell (p:=⟨(w.heap.size+1),1,none⟩) h0 (.slice none 0 0)).setCell (p:=⟨(w.heap.size+1),2,none⟩) h0 (.slice none 0 0)).setCell (p:=⟨(w.heap.size+1),3,none⟩) h0 (.slice none 0 0)))⟩
theorem Yz(uv:Value)(u:DG)(model room budget:Int)(w:World)(hu:Ma w uv u)(hR:Bi u=false)(hL:Sn u):
 Calls Tryz.prog 6 #[uv,.int .i64 model,.int .i64 room,.int .i64 budget] w fun r w'=>r=.returned (.tuple #[.agg #[.slice none 0 0,.slice none 0 0,.slice none 0 0,.slice none 0 0,.slice none 0 0,.slice none 0 0],.int .i64 8])∧Below w.heap.size w w':=by
 have HST:=Aa (fun(w':World) (hb:Below w.heap.size w w')=>VG uv u w' (hu.below hb) hR hL);obtain⟨ia,ic,ga,gc,ca,cc,rfl,-⟩:=hu.var;clear hu hR hL;have S0:=Aa (OT.start w #[.int .i64 u.mod,.slice ia u.init.length ic,.slice ga u.regs.length gc,.slice ca u.code.length cc] 25 #[.slice none 0 0,.slice none 0 0,.slice none 0 0,.slice none 0 0,.slice none 0 0,.slice none 0 0] 34);go_enter Tryz.func6,Tryz.ntmps6;go_wp2_with (go_at_call 17;refine(HST.out _ S0.out.below).mono ?_;rintro e1 w2 ⟨rfl,hb2⟩;have S2:=Aa (S0.out.more (hb2.trans (Ae w2 (.cells #[.slice none 0 0,.slice none 0 0,.slice none 0 0,.slice none 0 0] 62) |>.mono hb2.size)));clear hb2;obtain⟨r0,r1,r2,r3,r4,r5⟩:=JS S2.out.blk2;obtain⟨q0,q1,q2,q3,q4,q5⟩:=fR S2.out.blk2)
 have KB:=Ac (i:=5) (v:=.slice none 0 0) (Ac (i:=4) (v:=.slice none 0 0) (Ac (i:=3) (v:=.slice none 0 0) (Ac (i:=2) (v:=.slice none 0 0) (Ac (i:=1) (v:=.slice none 0 0) (Ac (i:=0) (v:=.slice none 0 0) S2.out.blk2)))));obtain⟨y0,y1,y2,y3,y4,y5⟩:=JS KB;have low:=S2.out.below;have h0:w.heap.size≤w.heap.size+1:=by omega
 refine Bd (v:=.tuple #[.agg #[.slice none 0 0,.slice none 0 0,.slice none 0 0,.slice none 0 0,.slice none 0 0,.slice none 0 0],.int .i64 8]) (by simp[results,Tryz.results6,go_sem,y0,y1,y2,y3,y4,y5]) rfl ?_;exact⟨rfl,(((((((low.setCell (p:=⟨(w.heap.size+1),0,none⟩) h0 (.slice none 0 0)).setCell (p:=⟨(w.heap.size+1),1,none⟩) h0 (.slice none 0 0)).setCell (p:=⟨(w.heap.size+1),2,none⟩) h0 (.slice none 0 0)).setCell (p:=⟨(w.heap.size+1),3,none⟩) h0 (.slice none 0 0))).setCell (p:=⟨(w.heap.size+1),4,none⟩) h0 (.slice none 0 0)).setCell (p:=⟨(w.heap.size+1),5,none⟩) h0 (.slice none 0 0))⟩
theorem bB(uv:Value)(u:DG)(model room budget:Int)(w:World)(hu:Ma w uv u)(hR:Bi u=true)(hL:Sn u)(ha:¬((1≤model∧model≤3)∧(1≤room∧room≤4)∧1≤budget)):
 Calls Tryz.prog 6 #[uv,.int .i64 model,.int .i64 room,.int .i64 budget] w fun r w'=>r=.returned (.tuple #[.agg #[.slice none 0 0,.slice none 0 0,.slice none 0 0,.slice none 0 0,.slice none 0 0,.slice none 0 0],.int .i64 1])∧Below w.heap.size w w':=by
 have HST:=Aa (fun(w':World) (hb:Below w.heap.size w w')=>Th uv u w' (hu.below hb) hR hL);obtain⟨ia,ic,ga,gc,ca,cc,rfl,-⟩:=hu.var;clear hu hR hL;generalize Dx u=C0 at*;have S0:=Aa (OT.start w #[.int .i64 u.mod,.slice ia u.init.length ic,.slice ga u.regs.length gc,.slice ca u.code.length cc] 25 #[.slice none 0 0,.slice none 0 0,.slice none 0 0,.slice none 0 0,.slice none 0 0,.slice none 0 0] 34);have hdec:(decide (model<1) || decide (3<model) || decide (room<1) || decide (4<room) || decide (budget<1))=true:=by
  simp only[Bool.or_eq_true,decide_eq_true_eq];omega
 by_cases h1:model<1;all_goals by_cases h2:3<model
 all_goals by_cases h3:room<1
 all_goals by_cases h4:4<room
 all_goals by_cases h5:budget<1
 all_goals first
  | (exfalso;omega)
  | (clear ha hdec
     go_enter Tryz.func6,Tryz.ntmps6;go_wp2_with (go_at_call 17;refine(HST.out _ S0.out.below).mono ?_;rintro e1 w1 ⟨vp,vr,vm,vb,rv,bv,rfl,hoc,hb1⟩;obtain⟨sp,kp,rfl⟩:=Bp hoc.pc;obtain⟨sr,kr,rfl⟩:=Bp hoc.regs.out;obtain⟨sm,km,rfl⟩:=Bp hoc.mem;obtain⟨sb,kb,rfl⟩:=Bp hoc.buf.out;have S2:=Aa (S0.out.more (hb1.trans ((Ae w1 (.cells #[.slice sp C0.pc.length kp,.slice sr C0.regs.length kr,.slice sm C0.mem.length km,.slice sb C0.buf.length kb] 62)).mono hb1.size)));clear hb1 hoc;obtain⟨r0,r1,r2,r3,r4,r5⟩:=JS S2.out.blk2;obtain⟨q0,q1,q2,q3,q4,q5⟩:=fR S2.out.blk2)
     have KB:=Ac (i:=5) (v:=.slice none 0 0) (Ac (i:=4) (v:=.slice none 0 0) (Ac (i:=3) (v:=.slice none 0 0) (Ac (i:=2) (v:=.slice none 0 0) (Ac (i:=1) (v:=.slice none 0 0) (Ac (i:=0) (v:=.slice none 0 0) S2.out.blk2)))));obtain⟨y0,y1,y2,y3,y4,y5⟩:=JS KB;have low:=S2.out.below;have h0:w.heap.size≤w.heap.size+1:=by omega
     refine Bd (v:=.tuple #[.agg #[.slice none 0 0,.slice none 0 0,.slice none 0 0,.slice none 0 0,.slice none 0 0,.slice none 0 0],.int .i64 1]) (by simp[results,Tryz.results6,go_sem,y0,y1,y2,y3,y4,y5]) rfl ?_;exact⟨rfl,(((((((low.setCell (p:=⟨(w.heap.size+1),0,none⟩) h0 (.slice none 0 0)).setCell (p:=⟨(w.heap.size+1),1,none⟩) h0 (.slice none 0 0)).setCell (p:=⟨(w.heap.size+1),2,none⟩) h0 (.slice none 0 0)).setCell (p:=⟨(w.heap.size+1),3,none⟩) h0 (.slice none 0 0))).setCell (p:=⟨(w.heap.size+1),4,none⟩) h0 (.slice none 0 0)).setCell (p:=⟨(w.heap.size+1),5,none⟩) h0 (.slice none 0 0))⟩)
def Ja(u:DG)(model room budget:Int):Option Sp:=if Bi u=true∧(1≤model∧model≤3)∧(1≤room∧room≤4)∧1≤budget then WI u model room budget else none
def gQ(w:World)(R:Option Sp)(r:Ending)(w':World):Prop:=
 (match R with
  | none=>∃e:Int,r=.returned (.tuple #[.agg #[.slice none 0 0,.slice none 0 0,.slice none 0 0,.slice none 0 0,.slice none 0 0,.slice none 0 0],.int .i64 e])∧e≠0
  | some s=>∃v,r=.returned (.tuple #[v,.int .i64 0])∧QV w' v s∧fT (fun q=>q<w.heap.size) w' v s)∧Below w.heap.size w w'
theorem Wv(uv:Value)(u:DG)(model room budget:Int)(w:World)(hu:Ma w uv u)(hL:Sn u)(hb:budget≤500):
 Calls Tryz.prog 6 #[uv,.int .i64 model,.int .i64 room,.int .i64 budget] w (gQ w (Ja u model room budget)):=by
 unfold Ja;cases hR:Bi u
 ·rw[if_neg (by simp)];refine(Yz uv u model room budget w hu hR hL).mono ?_;rintro r w' ⟨rfl,hb⟩;exact⟨⟨8,rfl,by omega⟩,hb⟩
 ·by_cases ha:(1≤model∧model≤3)∧(1≤room∧room≤4)∧1≤budget
  ·rw[if_pos ⟨rfl,ha⟩];refine(XL uv u model room budget w hu hR hL ha.1 ha.2.1 ⟨ha.2.2,hb⟩).mono ?_;rintro r w' ⟨h1,h2⟩;refine⟨?_,h2⟩;cases hA:WI u model room budget with
   | none=>rw[hA]at h1;exact⟨18,h1,by omega⟩
   | some s=>rw[hA]at h1;exact h1
  ·rw[if_neg (fun h=>ha h.2)];refine(bB uv u model room budget w hu hR hL ha).mono ?_;rintro r w' ⟨rfl,hb⟩;exact⟨⟨1,rfl,by omega⟩,hb⟩
theorem Md{u:DG}{model room budget:Int}{s:Sp}(h:Ja u model room budget=some s):Bi u=true∧(1≤model∧model≤3)∧(1≤room∧room≤4)∧1≤budget∧WI u model room budget=some s:=by
 unfold Ja at h;split at h
 ·rename_i hc;exact⟨hc.1,hc.2.1,hc.2.2.1,hc.2.2.2,h⟩
 ·cases h
end Go.Proofs.YtlhpjfnfemebdaaGreat
