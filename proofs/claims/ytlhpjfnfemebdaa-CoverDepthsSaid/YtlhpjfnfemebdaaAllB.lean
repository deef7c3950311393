/-
  All that can be reached, of any unit: or an error.
-/
import Derived.Test.YtlhpjfnfemebdaaAll
namespace Go.Proofs.Ytlhpjfnfemebdaa
open Go.RowKit
set_option maxRecDepth 100000 in
set_option maxHeartbeats 32000000 in
theorem start_not (uv : Value) (u : PUn) (w : World) (hu : UnV w uv u) (hR : rightU u = false) (hL : UnL u) :
  Calls Try.prog 42 #[uv] w fun r w' => r = .returned (.tuple #[.agg #[.slice none 0 0, .slice none 0 0, .slice none 0 0, .slice none 0 0], .int .i64 8]) ∧ Below w.heap.size w w' := by
 have HR := Lib.hid (fun (w' : World) (hb : Below w.heap.size w w') => (by have := rightu_ok uv u w' (hu.below hb) hL; rwa [hR] at this : Calls Try.prog 36 #[uv] w' fun e w2 => e = .returned (.bool false) ∧ Below w'.heap.size w' w2))
 obtain ⟨ia, ic, ga, gc, ca, cc, rfl, -⟩ := hu.var
 clear hu hR hL
 have S0 := Lib.hid (Bx2.start w #[.int .i64 u.mod, .slice ia u.init.length ic, .slice ga u.regs.length gc, .slice ca u.code.length cc] 25 #[.slice none 0 0, .slice none 0 0, .slice none 0 0, .slice none 0 0] 52)
 go_enter Try.func42, Try.ntmps42
 go_wp2_with (go_at_call 36; refine (HR.out _ S0.out.below).mono ?_; rintro e1 w2 ⟨rfl, hb2⟩; have S2 := Lib.hid (S0.out.more hb2); clear hb2; have r0 := cell_of_block S2.out.blk2 0 (.slice none 0 0) rfl; have r1 := cell_of_block S2.out.blk2 1 (.slice none 0 0) rfl; have r2 := cell_of_block S2.out.blk2 2 (.slice none 0 0) rfl; have r3 := cell_of_block S2.out.blk2 3 (.slice none 0 0) rfl; have q0 := free_of_block S2.out.blk2 0; have q1 := free_of_block S2.out.blk2 1; have q2 := free_of_block S2.out.blk2 2; have q3 := free_of_block S2.out.blk2 3)
 have KB := heap_setCell_block (i := 3) (v := .slice none 0 0) (heap_setCell_block (i := 2) (v := .slice none 0 0) (heap_setCell_block (i := 1) (v := .slice none 0 0) (heap_setCell_block (i := 0) (v := .slice none 0 0) S2.out.blk2)))
 have y0 := cell_of_block KB 0 (.slice none 0 0) rfl
 have y1 := cell_of_block KB 1 (.slice none 0 0) rfl
 have y2 := cell_of_block KB 2 (.slice none 0 0) rfl
 have y3 := cell_of_block KB 3 (.slice none 0 0) rfl
 have low := S2.out.below
 have h0 : w.heap.size ≤ w.heap.size + 1 := by omega
 refine bodyPost_ret (v := .tuple #[.agg #[.slice none 0 0, .slice none 0 0, .slice none 0 0, .slice none 0 0], .int .i64 8]) (by simp [results, Try.results42, go_sem, y0, y1, y2, y3]) rfl ?_
 exact ⟨rfl, (((((low.setCell (p := ⟨(w.heap.size + 1), 0, none⟩) h0 (.slice none 0 0)).setCell (p := ⟨(w.heap.size + 1), 1, none⟩) h0 (.slice none 0 0)).setCell (p := ⟨(w.heap.size + 1), 2, none⟩) h0 (.slice none 0 0)).setCell (p := ⟨(w.heap.size + 1), 3, none⟩) h0 (.slice none 0 0)))⟩
set_option maxRecDepth 100000 in
set_option maxHeartbeats 32000000 in
theorem all_form (uv : Value) (u : PUn) (model room budget : Int) (w : World) (hu : UnV w uv u) (hR : rightU u = false) (hL : UnL u) :
  Calls Try.prog 27 #[uv, .int .i64 model, .int .i64 room, .int .i64 budget] w fun r w' => r = .returned (.tuple #[.agg #[.slice none 0 0, .slice none 0 0, .slice none 0 0, .slice none 0 0, .slice none 0 0, .slice none 0 0], .int .i64 8]) ∧ Below w.heap.size w w' := by
 have HST := Lib.hid (fun (w' : World) (hb : Below w.heap.size w w') => start_not uv u w' (hu.below hb) hR hL)
 obtain ⟨ia, ic, ga, gc, ca, cc, rfl, -⟩ := hu.var
 clear hu hR hL
 have S0 := Lib.hid (Bx2.start w #[.int .i64 u.mod, .slice ia u.init.length ic, .slice ga u.regs.length gc, .slice ca u.code.length cc] 25 #[.slice none 0 0, .slice none 0 0, .slice none 0 0, .slice none 0 0, .slice none 0 0, .slice none 0 0] 32)
 go_enter Try.func27, Try.ntmps27
 go_wp2_with (go_at_call 42; refine (HST.out _ S0.out.below).mono ?_; rintro e1 w2 ⟨rfl, hb2⟩; have S2 := Lib.hid (S0.out.more (hb2.trans (balloc w2 (.cells #[.slice none 0 0, .slice none 0 0, .slice none 0 0, .slice none 0 0] 52) |>.mono hb2.size))); clear hb2; have r0 := cell_of_block S2.out.blk2 0 (.slice none 0 0) rfl; have r1 := cell_of_block S2.out.blk2 1 (.slice none 0 0) rfl; have r2 := cell_of_block S2.out.blk2 2 (.slice none 0 0) rfl; have r3 := cell_of_block S2.out.blk2 3 (.slice none 0 0) rfl; have r4 := cell_of_block S2.out.blk2 4 (.slice none 0 0) rfl; have r5 := cell_of_block S2.out.blk2 5 (.slice none 0 0) rfl; have q0 := free_of_block S2.out.blk2 0; have q1 := free_of_block S2.out.blk2 1; have q2 := free_of_block S2.out.blk2 2; have q3 := free_of_block S2.out.blk2 3; have q4 := free_of_block S2.out.blk2 4; have q5 := free_of_block S2.out.blk2 5)
 have KB := heap_setCell_block (i := 5) (v := .slice none 0 0) (heap_setCell_block (i := 4) (v := .slice none 0 0) (heap_setCell_block (i := 3) (v := .slice none 0 0) (heap_setCell_block (i := 2) (v := .slice none 0 0) (heap_setCell_block (i := 1) (v := .slice none 0 0) (heap_setCell_block (i := 0) (v := .slice none 0 0) S2.out.blk2)))))
 have y0 := cell_of_block KB 0 (.slice none 0 0) rfl
 have y1 := cell_of_block KB 1 (.slice none 0 0) rfl
 have y2 := cell_of_block KB 2 (.slice none 0 0) rfl
 have y3 := cell_of_block KB 3 (.slice none 0 0) rfl
 have y4 := cell_of_block KB 4 (.slice none 0 0) rfl
 have y5 := cell_of_block KB 5 (.slice none 0 0) rfl
 have low := S2.out.below
 have h0 : w.heap.size ≤ w.heap.size + 1 := by omega
 refine bodyPost_ret (v := .tuple #[.agg #[.slice none 0 0, .slice none 0 0, .slice none 0 0, .slice none 0 0, .slice none 0 0, .slice none 0 0], .int .i64 8]) (by simp [results, Try.results27, go_sem, y0, y1, y2, y3, y4, y5]) rfl ?_
 exact ⟨rfl, (((((((low.setCell (p := ⟨(w.heap.size + 1), 0, none⟩) h0 (.slice none 0 0)).setCell (p := ⟨(w.heap.size + 1), 1, none⟩) h0 (.slice none 0 0)).setCell (p := ⟨(w.heap.size + 1), 2, none⟩) h0 (.slice none 0 0)).setCell (p := ⟨(w.heap.size + 1), 3, none⟩) h0 (.slice none 0 0))).setCell (p := ⟨(w.heap.size + 1), 4, none⟩) h0 (.slice none 0 0)).setCell (p := ⟨(w.heap.size + 1), 5, none⟩) h0 (.slice none 0 0))⟩
set_option maxRecDepth 100000 in
set_option maxHeartbeats 32000000 in
theorem all_arg (uv : Value) (u : PUn) (model room budget : Int) (w : World) (hu : UnV w uv u) (hR : rightU u = true) (hL : UnL u) (ha : ¬ ((1 ≤ model ∧ model ≤ 3) ∧ (1 ≤ room ∧ room ≤ 4) ∧ 1 ≤ budget)) :
  Calls Try.prog 27 #[uv, .int .i64 model, .int .i64 room, .int .i64 budget] w fun r w' => r = .returned (.tuple #[.agg #[.slice none 0 0, .slice none 0 0, .slice none 0 0, .slice none 0 0, .slice none 0 0, .slice none 0 0], .int .i64 1]) ∧ Below w.heap.size w w' := by
 have HST := Lib.hid (fun (w' : World) (hb : Below w.heap.size w w') => start_ok uv u w' (hu.below hb) hR hL)
 obtain ⟨ia, ic, ga, gc, ca, cc, rfl, -⟩ := hu.var
 clear hu hR hL
 generalize startC u = C0 at *
 have S0 := Lib.hid (Bx2.start w #[.int .i64 u.mod, .slice ia u.init.length ic, .slice ga u.regs.length gc, .slice ca u.code.length cc] 25 #[.slice none 0 0, .slice none 0 0, .slice none 0 0, .slice none 0 0, .slice none 0 0, .slice none 0 0] 32)
 have hdec : (decide (model < 1) || decide (3 < model) || decide (room < 1) || decide (4 < room) || decide (budget < 1)) = true := by
  simp only [Bool.or_eq_true, decide_eq_true_eq]
  omega
 by_cases h1 : model < 1
 all_goals by_cases h2 : 3 < model
 all_goals by_cases h3 : room < 1
 all_goals by_cases h4 : 4 < room
 all_goals by_cases h5 : budget < 1
 all_goals first
  | (exfalso; omega)
  | (clear ha hdec
     go_enter Try.func27, Try.ntmps27
     go_wp2_with (go_at_call 42; refine (HST.out _ S0.out.below).mono ?_; rintro e1 w1 ⟨vp, vr, vm, vb, rv, bv, rfl, hoc, hb1⟩; obtain ⟨sp, kp, rfl⟩ := ownv hoc.pc; obtain ⟨sr, kr, rfl⟩ := ownv hoc.regs.out; obtain ⟨sm, km, rfl⟩ := ownv hoc.mem; obtain ⟨sb, kb, rfl⟩ := ownv hoc.buf.out; have S2 := Lib.hid (S0.out.more (hb1.trans ((balloc w1 (.cells #[.slice sp C0.pc.length kp, .slice sr C0.regs.length kr, .slice sm C0.mem.length km, .slice sb C0.buf.length kb] 52)).mono hb1.size))); clear hb1 hoc; have r0 := cell_of_block S2.out.blk2 0 (.slice none 0 0) rfl; have r1 := cell_of_block S2.out.blk2 1 (.slice none 0 0) rfl; have r2 := cell_of_block S2.out.blk2 2 (.slice none 0 0) rfl; have r3 := cell_of_block S2.out.blk2 3 (.slice none 0 0) rfl; have r4 := cell_of_block S2.out.blk2 4 (.slice none 0 0) rfl; have r5 := cell_of_block S2.out.blk2 5 (.slice none 0 0) rfl; have q0 := free_of_block S2.out.blk2 0; have q1 := free_of_block S2.out.blk2 1; have q2 := free_of_block S2.out.blk2 2; have q3 := free_of_block S2.out.blk2 3; have q4 := free_of_block S2.out.blk2 4; have q5 := free_of_block S2.out.blk2 5)
     have KB := heap_setCell_block (i := 5) (v := .slice none 0 0) (heap_setCell_block (i := 4) (v := .slice none 0 0) (heap_setCell_block (i := 3) (v := .slice none 0 0) (heap_setCell_block (i := 2) (v := .slice none 0 0) (heap_setCell_block (i := 1) (v := .slice none 0 0) (heap_setCell_block (i := 0) (v := .slice none 0 0) S2.out.blk2)))))
     have y0 := cell_of_block KB 0 (.slice none 0 0) rfl
     have y1 := cell_of_block KB 1 (.slice none 0 0) rfl
     have y2 := cell_of_block KB 2 (.slice none 0 0) rfl
     have y3 := cell_of_block KB 3 (.slice none 0 0) rfl
     have y4 := cell_of_block KB 4 (.slice none 0 0) rfl
     have y5 := cell_of_block KB 5 (.slice none 0 0) rfl
     have low := S2.out.below
     have h0 : w.heap.size ≤ w.heap.size + 1 := by omega
     refine bodyPost_ret (v := .tuple #[.agg #[.slice none 0 0, .slice none 0 0, .slice none 0 0, .slice none 0 0, .slice none 0 0, .slice none 0 0], .int .i64 1]) (by simp [results, Try.results27, go_sem, y0, y1, y2, y3, y4, y5]) rfl ?_
     exact ⟨rfl, (((((((low.setCell (p := ⟨(w.heap.size + 1), 0, none⟩) h0 (.slice none 0 0)).setCell (p := ⟨(w.heap.size + 1), 1, none⟩) h0 (.slice none 0 0)).setCell (p := ⟨(w.heap.size + 1), 2, none⟩) h0 (.slice none 0 0)).setCell (p := ⟨(w.heap.size + 1), 3, none⟩) h0 (.slice none 0 0))).setCell (p := ⟨(w.heap.size + 1), 4, none⟩) h0 (.slice none 0 0)).setCell (p := ⟨(w.heap.size + 1), 5, none⟩) h0 (.slice none 0 0))⟩)
def spaceS (u : PUn) (model room budget : Int) : Option Sp := if rightU u = true ∧ (1 ≤ model ∧ model ≤ 3) ∧ (1 ≤ room ∧ room ≤ 4) ∧ 1 ≤ budget then allS u model room budget else none
def AnyR (w : World) (R : Option Sp) (r : Ending) (w' : World) : Prop :=
 (match R with
  | none => ∃ e : Int, r = .returned (.tuple #[.agg #[.slice none 0 0, .slice none 0 0, .slice none 0 0, .slice none 0 0, .slice none 0 0, .slice none 0 0], .int .i64 e]) ∧ e ≠ 0
  | some s => ∃ v, r = .returned (.tuple #[v, .int .i64 0]) ∧ SpV w' v s ∧ SpT (fun q => q < w.heap.size) w' v s) ∧ Below w.heap.size w w'
theorem all_any15 (uv : Value) (u : PUn) (model room budget : Int) (w : World) (hu : UnV w uv u) (hL : UnL u) (hb : budget ≤ 500) :
  Calls Try.prog 27 #[uv, .int .i64 model, .int .i64 room, .int .i64 budget] w (AnyR w (spaceS u model room budget)) := by
 unfold spaceS
 cases hR : rightU u
 ·rw [if_neg (by simp)]
  refine (all_form uv u model room budget w hu hR hL).mono ?_
  rintro r w' ⟨rfl, hb⟩
  exact ⟨⟨8, rfl, by omega⟩, hb⟩
 ·by_cases ha : (1 ≤ model ∧ model ≤ 3) ∧ (1 ≤ room ∧ room ≤ 4) ∧ 1 ≤ budget
  ·rw [if_pos ⟨rfl, ha⟩]
   refine (allsp_ok uv u model room budget w hu hR hL ha.1 ha.2.1 ⟨ha.2.2, hb⟩).mono ?_
   rintro r w' ⟨h1, h2⟩
   refine ⟨?_, h2⟩
   cases hA : allS u model room budget with
   | none => rw [hA] at h1; exact ⟨18, h1, by omega⟩
   | some s => rw [hA] at h1; exact h1
  ·rw [if_neg (fun h => ha h.2)]
   refine (all_arg uv u model room budget w hu hR hL ha).mono ?_
   rintro r w' ⟨rfl, hb⟩
   exact ⟨⟨1, rfl, by omega⟩, hb⟩
theorem spaceS_some {u : PUn} {model room budget : Int} {s : Sp} (h : spaceS u model room budget = some s) : rightU u = true ∧ (1 ≤ model ∧ model ≤ 3) ∧ (1 ≤ room ∧ room ≤ 4) ∧ 1 ≤ budget ∧ allS u model room budget = some s := by
 unfold spaceS at h
 split at h
 ·rename_i hc
  exact ⟨hc.1, hc.2.1, hc.2.2.1, hc.2.2.2, h⟩
 ·cases h
end Go.Proofs.Ytlhpjfnfemebdaa
