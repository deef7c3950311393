/-
  Whether an instruction can be: all kinds; Done.
-/
import Derived.Test.YtlhpjfnfemebdaaMachD1
import Derived.Test.YtlhpjfnfemebdaaMachD2
import Derived.Test.YtlhpjfnfemebdaaMachD3
import Derived.Test.YtlhpjfnfemebdaaMachD4
namespace Go.Proofs.Ytlhpjfnfemebdaa
open Go.RowKit
theorem isOp_not {op : Int} (h2 : op ≠ 2) (h3 : op ≠ 3) (h4 : op ≠ 4) (h5 : op ≠ 5) (h6 : op ≠ 6) (h7 : op ≠ 7) (h8 : op ≠ 8) (h9 : op ≠ 9) (h20 : op ≠ 20) (h21 : op ≠ 21) : isOp op = false := by
 unfold isOp; exact decide_eq_false (by omega)
set_option maxRecDepth 100000 in
set_option maxHeartbeats 16000000 in
theorem one_ok (v : Value) (x : PIn) (regs locs many : Int) (w : World) (h : InV w v x) (hle : x.e.length ≤ 1000000) (hlf : x.f.length ≤ 1000000) :
  Calls Try.prog 58 #[v, .int .i64 regs, .int .i64 locs, .int .i64 many] w fun r w' => r = .returned (.bool (oneB x regs locs many)) ∧ Below w.heap.size w w' := by
 obtain ⟨op, reg, loc, e, f, ne, tgt⟩ := x
 obtain ⟨ve, vf, rfl, he, hf⟩ := h
 simp only at hle hlf he hf ⊢
 by_cases h2 : op = 2
 ·subst h2; exact one_2 reg loc tgt regs locs many e f ne ve vf w he hf hle hlf
 by_cases h3 : op = 3
 ·subst h3; exact one_3 reg loc tgt regs locs many e f ne ve vf w he hf hle hlf
 by_cases h4 : op = 4
 ·subst h4; exact one_4 reg loc tgt regs locs many e f ne ve vf w he hf hle hlf
 by_cases h5 : op = 5
 ·subst h5; exact one_5 reg loc tgt regs locs many e f ne ve vf w he hf hle hlf
 by_cases h6 : op = 6
 ·subst h6; exact one_6 reg loc tgt regs locs many e f ne ve vf w he hf hle hlf
 by_cases h7 : op = 7
 ·subst h7; exact one_7 reg loc tgt regs locs many e f ne ve vf w he hf hle hlf
 by_cases h8 : op = 8
 ·subst h8; exact one_8 reg loc tgt regs locs many e f ne ve vf w he hf hle hlf
 by_cases h9 : op = 9
 ·subst h9; exact one_9 reg loc tgt regs locs many e f ne ve vf w he hf hle hlf
 by_cases h20 : op = 20
 ·subst h20; exact one_20 reg loc tgt regs locs many e f ne ve vf w he hf hle hlf
 by_cases h21 : op = 21
 ·subst h21; exact one_21 reg loc tgt regs locs many e f ne ve vf w he hf hle hlf
 have E0 : oneB ⟨op, reg, loc, e, f, ne, tgt⟩ regs locs many = false := by
  unfold oneB; rw [isOp_not h2 h3 h4 h5 h6 h7 h8 h9 h20 h21]; rfl
 rw [E0]
 have HP : Hid (∀ w' : World, Calls Try.prog 75 #[.int .i64 op] w' fun e w2 => e = .returned (.tuple #[.string (partS op), .bool false]) ∧ Below w'.heap.size w' w2) := Lib.hid (fun w' => by
  have := parts_kind op w'
  rwa [isOp_not h2 h3 h4 h5 h6 h7 h8 h9 h20 h21] at this)
 clear h2 h3 h4 h5 h6 h7 h8 h9 h20 h21 E0 hle hlf
 obtain ⟨ea, ec, rfl, -⟩ := he
 obtain ⟨fa, fc, rfl, -⟩ := hf
 have S0 := Lib.hid (BxC.start w #[.int .i64 op, .int .i64 reg, .int .i64 loc, .slice ea e.length ec, .slice fa f.length fc, .bool ne, .int .i64 tgt] 61)
 go_enter Try.func58, Try.ntmps58
 go_wp2_with (go_at_call 75; refine (HP.out _).mono ?_; rintro e1 w1 ⟨rfl, hb1⟩; have S1 := Lib.hid (S0.out.more hb1); clear hb1)
 go_ret
 exact ⟨rfl, S1.out.below⟩
def doneB (x : PIn) : Bool := x.op == 22 && x.reg == 0 && x.loc == 0 && x.e.length == 0 && x.f.length == 0 && !x.ne && x.tgt == 0
set_option maxRecDepth 100000 in
set_option maxHeartbeats 16000000 in
theorem done_ok (v : Value) (x : PIn) (w : World) (h : InV w v x) : Calls Try.prog 57 #[v] w fun r w' => r = .returned (.bool (doneB x)) ∧ Below w.heap.size w w' := by
 obtain ⟨op, reg, loc, e, f, ne, tgt⟩ := x
 obtain ⟨ve, vf, rfl, he, hf⟩ := h
 simp only at he hf ⊢
 unfold doneB
 simp only
 obtain ⟨ea, ec, rfl, -⟩ := he
 obtain ⟨fa, fc, rfl, -⟩ := hf
 generalize e.length = el at *
 generalize f.length = fl at *
 by_cases zop : op = 22
 rotate_left
 ·have n1 : (op == 22) = false := beq_false_of_ne zop
  rw [n1]
  clear zop
  go_enter Try.func57, Try.ntmps57
  go_wp2_with fail
  go_ret
  exact ⟨by simp, balloc w _⟩
 subst zop
 by_cases zreg : reg = 0
 rotate_left
 ·have n1 : (reg == 0) = false := beq_false_of_ne zreg
  rw [n1]
  clear zreg
  go_enter Try.func57, Try.ntmps57
  go_wp2_with fail
  go_ret
  exact ⟨by simp, balloc w _⟩
 subst zreg
 by_cases zloc : loc = 0
 rotate_left
 ·have n1 : (loc == 0) = false := beq_false_of_ne zloc
  rw [n1]
  clear zloc
  go_enter Try.func57, Try.ntmps57
  go_wp2_with fail
  go_ret
  exact ⟨by simp, balloc w _⟩
 subst zloc
 by_cases zel : el = 0
 rotate_left
 ·have n1 : ((el : Int) == 0) = false := beq_false_of_ne (by omega)
  have n2 : (el == 0) = false := beq_false_of_ne zel
  rw [n2]
  clear n2
  clear zel
  go_enter Try.func57, Try.ntmps57
  go_wp2_with fail
  go_ret
  exact ⟨by simp, balloc w _⟩
 subst zel
 by_cases zfl : fl = 0
 rotate_left
 ·have n1 : ((fl : Int) == 0) = false := beq_false_of_ne (by omega)
  have n2 : (fl == 0) = false := beq_false_of_ne zfl
  rw [n2]
  clear n2
  clear zfl
  go_enter Try.func57, Try.ntmps57
  go_wp2_with fail
  go_ret
  exact ⟨by simp, balloc w _⟩
 subst zfl
 cases ne
 rotate_left
 ·go_enter Try.func57, Try.ntmps57
  go_wp2_with fail
  go_ret
  exact ⟨by simp, balloc w _⟩
 by_cases ztgt : tgt = 0
 rotate_left
 ·have n1 : (tgt == 0) = false := beq_false_of_ne ztgt
  rw [n1]
  clear ztgt
  go_enter Try.func57, Try.ntmps57
  go_wp2_with fail
  go_ret
  exact ⟨by simp, balloc w _⟩
 subst ztgt
 go_enter Try.func57, Try.ntmps57
 go_wp2_with fail
 go_ret
 exact ⟨by simp, balloc w _⟩
end Go.Proofs.Ytlhpjfnfemebdaa
