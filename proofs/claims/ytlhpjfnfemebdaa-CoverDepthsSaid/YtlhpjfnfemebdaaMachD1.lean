/-
  Whether an instruction can be, kind by kind. (Written by gen_one.py.)
-/
import Derived.Test.YtlhpjfnfemebdaaJMachB
namespace Go.Proofs.Ytlhpjfnfemebdaa
open Go.RowKit
set_option linter.unusedSimpArgs false
set_option linter.unusedVariables false
set_option maxRecDepth 100000 in
set_option maxHeartbeats 64000000 in
theorem one_2 (reg loc tgt regs locs many : Int) (e f : List Ed) (ne : Bool) (ve vf : Value) (w : World) (he : EdgesAt w ve e) (hf : EdgesAt w vf f) (hle : e.length ≤ 1000000) (hlf : f.length ≤ 1000000) :
  Calls Try.prog 58 #[.agg #[.int .i64 2, .int .i64 reg, .int .i64 loc, ve, vf, .bool ne, .int .i64 tgt], .int .i64 regs, .int .i64 locs, .int .i64 many] w fun r w' => r = .returned (.bool (oneB ⟨2, reg, loc, e, f, ne, tgt⟩ regs locs many)) ∧ Below w.heap.size w w' := by
 have E0 : oneB ⟨2, reg, loc, e, f, ne, tgt⟩ regs locs many = ((inR reg regs) && (loc == 0) && (tgt == 0) && (codeB regs e) && (f.length == 0) && !ne) := by
  unfold oneB
  simp only [show isOp 2 = true from by decide, show hasP 2 114 = true from by decide, show hasP 2 108 = false from by decide, show hasP 2 116 = false from by decide, show hasP 2 101 = true from by decide, show hasP 2 102 = false from by decide, show hasP 2 110 = false from by decide]
  simp
 rw [E0]
 clear E0
 have HP := Lib.hid (fun (w' : World) => (by exact parts_kind 2 w' : Calls Try.prog 75 #[.int .i64 2] w' fun e w2 => e = .returned (.tuple #[.string ⟨#[114, 101]⟩, .bool true]) ∧ Below w'.heap.size w' w2))
 have HH := Lib.hid (fun (c : Int) (w' : World) => has_ok ⟨#[114, 101]⟩ c w' (by decide))
 have g114 : hasB ⟨#[114, 101]⟩ 114 = true := by decide
 have g108 : hasB ⟨#[114, 101]⟩ 108 = false := by decide
 have g116 : hasB ⟨#[114, 101]⟩ 116 = false := by decide
 have g101 : hasB ⟨#[114, 101]⟩ 101 = true := by decide
 have g102 : hasB ⟨#[114, 101]⟩ 102 = false := by decide
 have g110 : hasB ⟨#[114, 101]⟩ 110 = false := by decide
 have I7 := Lib.hid in7_ok
 have Ie := Lib.hid (fun (w' : World) (hb : Below w.heap.size w w') => code_ok ve e regs w' (he.below hb) hle)
 obtain ⟨qr, hqr⟩ : ∃ b, inR reg regs = b := ⟨_, rfl⟩
 obtain ⟨qe, hqe⟩ : ∃ b, codeB regs e = b := ⟨_, rfl⟩
 rw [hqr, hqe]
 obtain ⟨ea, ec, rfl, -⟩ := he
 obtain ⟨fa, fc, rfl, -⟩ := hf
 clear hle hlf
 generalize e.length = el at *
 generalize f.length = fl at *
 have S := Lib.hid (BxC.start w #[.int .i64 2, .int .i64 reg, .int .i64 loc, .slice ea el ec, .slice fa fl fc, .bool ne, .int .i64 tgt] 61)
 cases qr
 ·go_enter Try.func58, Try.ntmps58
  go_wp2_with ((first
   | (go_at_call 77; refine (I7.out _ _ _).mono ?_; simp only [hqr]; rintro ee ww ⟨rfl, hb⟩; have S := Lib.hid (S.out.more hb); clear hb)
   | (go_at_call 76; refine (HH.out _ _).mono ?_; simp only [g114, g108, g116, g101, g102, g110]; rintro ee ww ⟨rfl, hb⟩; have S := Lib.hid (S.out.more hb); clear hb)
   | (go_at_call 75; refine (HP.out _).mono ?_; rintro ee ww ⟨rfl, hb⟩; have S := Lib.hid (S.out.more hb); clear hb)); (try clear c0 c1 c2 c3 c4 c5 c6); obtain ⟨c0, c1, c2, c3, c4, c5, c6⟩ := cells7 S.out.blk)
  go_ret
  exact ⟨by simp, S.out.below⟩
 by_cases zl : loc = 0
 rotate_left
 ·have n1 : (loc != 0) = true := by simpa using zl
  have n2 : (loc == 0) = false := by simpa using zl
  rw [n2]
  clear n2 zl
  go_enter Try.func58, Try.ntmps58
  go_wp2_with ((first
   | (go_at_call 76; refine (HH.out _ _).mono ?_; simp only [g114, g108, g116, g101, g102, g110]; rintro ee ww ⟨rfl, hb⟩; have S := Lib.hid (S.out.more hb); clear hb)
   | (go_at_call 77; refine (I7.out _ _ _).mono ?_; simp only [hqr]; rintro ee ww ⟨rfl, hb⟩; have S := Lib.hid (S.out.more hb); clear hb)
   | (go_at_call 75; refine (HP.out _).mono ?_; rintro ee ww ⟨rfl, hb⟩; have S := Lib.hid (S.out.more hb); clear hb)); (try clear c0 c1 c2 c3 c4 c5 c6); obtain ⟨c0, c1, c2, c3, c4, c5, c6⟩ := cells7 S.out.blk)
  go_ret
  exact ⟨by simp, S.out.below⟩
 subst zl
 by_cases zt : tgt = 0
 rotate_left
 ·have n1 : (tgt != 0) = true := by simpa using zt
  have n2 : (tgt == 0) = false := by simpa using zt
  rw [n2]
  clear n2 zt
  go_enter Try.func58, Try.ntmps58
  go_wp2_with ((first
   | (go_at_call 76; refine (HH.out _ _).mono ?_; simp only [g114, g108, g116, g101, g102, g110]; rintro ee ww ⟨rfl, hb⟩; have S := Lib.hid (S.out.more hb); clear hb)
   | (go_at_call 77; refine (I7.out _ _ _).mono ?_; simp only [hqr]; rintro ee ww ⟨rfl, hb⟩; have S := Lib.hid (S.out.more hb); clear hb)
   | (go_at_call 75; refine (HP.out _).mono ?_; rintro ee ww ⟨rfl, hb⟩; have S := Lib.hid (S.out.more hb); clear hb)); (try clear c0 c1 c2 c3 c4 c5 c6); obtain ⟨c0, c1, c2, c3, c4, c5, c6⟩ := cells7 S.out.blk)
  go_ret
  exact ⟨by simp, S.out.below⟩
 subst zt
 cases qe
 ·go_enter Try.func58, Try.ntmps58
  go_wp2_with ((first
   | (go_at_call 78; refine (Ie.out _ S.out.below).mono ?_; simp only [hqe]; rintro ee ww ⟨rfl, hb⟩; have S := Lib.hid (S.out.more hb); clear hb)
   | (go_at_call 76; refine (HH.out _ _).mono ?_; simp only [g114, g108, g116, g101, g102, g110]; rintro ee ww ⟨rfl, hb⟩; have S := Lib.hid (S.out.more hb); clear hb)
   | (go_at_call 77; refine (I7.out _ _ _).mono ?_; simp only [hqr]; rintro ee ww ⟨rfl, hb⟩; have S := Lib.hid (S.out.more hb); clear hb)
   | (go_at_call 75; refine (HP.out _).mono ?_; rintro ee ww ⟨rfl, hb⟩; have S := Lib.hid (S.out.more hb); clear hb)); (try clear c0 c1 c2 c3 c4 c5 c6); obtain ⟨c0, c1, c2, c3, c4, c5, c6⟩ := cells7 S.out.blk)
  go_ret
  exact ⟨by simp, S.out.below⟩
 by_cases zf : fl = 0
 rotate_left
 ·have n1 : (0 : Int) < (fl : Int) := by omega
  have n2 : (fl == 0) = false := by simpa using zf
  rw [n2]
  clear n2 zf
  go_enter Try.func58, Try.ntmps58
  go_wp2_with ((first
   | (go_at_call 76; refine (HH.out _ _).mono ?_; simp only [g114, g108, g116, g101, g102, g110]; rintro ee ww ⟨rfl, hb⟩; have S := Lib.hid (S.out.more hb); clear hb)
   | (go_at_call 78; refine (Ie.out _ S.out.below).mono ?_; simp only [hqe]; rintro ee ww ⟨rfl, hb⟩; have S := Lib.hid (S.out.more hb); clear hb)
   | (go_at_call 77; refine (I7.out _ _ _).mono ?_; simp only [hqr]; rintro ee ww ⟨rfl, hb⟩; have S := Lib.hid (S.out.more hb); clear hb)
   | (go_at_call 75; refine (HP.out _).mono ?_; rintro ee ww ⟨rfl, hb⟩; have S := Lib.hid (S.out.more hb); clear hb)); (try clear c0 c1 c2 c3 c4 c5 c6); obtain ⟨c0, c1, c2, c3, c4, c5, c6⟩ := cells7 S.out.blk)
  go_ret
  exact ⟨by simp, S.out.below⟩
 subst zf
 go_enter Try.func58, Try.ntmps58
 go_wp2_with ((first
  | (go_at_call 76; refine (HH.out _ _).mono ?_; simp only [g114, g108, g116, g101, g102, g110]; rintro ee ww ⟨rfl, hb⟩; have S := Lib.hid (S.out.more hb); clear hb)
  | (go_at_call 78; refine (Ie.out _ S.out.below).mono ?_; simp only [hqe]; rintro ee ww ⟨rfl, hb⟩; have S := Lib.hid (S.out.more hb); clear hb)
  | (go_at_call 77; refine (I7.out _ _ _).mono ?_; simp only [hqr]; rintro ee ww ⟨rfl, hb⟩; have S := Lib.hid (S.out.more hb); clear hb)
  | (go_at_call 75; refine (HP.out _).mono ?_; rintro ee ww ⟨rfl, hb⟩; have S := Lib.hid (S.out.more hb); clear hb)); (try clear c0 c1 c2 c3 c4 c5 c6); obtain ⟨c0, c1, c2, c3, c4, c5, c6⟩ := cells7 S.out.blk)
 go_ret
 exact ⟨by simp, S.out.below⟩
set_option maxRecDepth 100000 in
set_option maxHeartbeats 64000000 in
theorem one_3 (reg loc tgt regs locs many : Int) (e f : List Ed) (ne : Bool) (ve vf : Value) (w : World) (he : EdgesAt w ve e) (hf : EdgesAt w vf f) (hle : e.length ≤ 1000000) (hlf : f.length ≤ 1000000) :
  Calls Try.prog 58 #[.agg #[.int .i64 3, .int .i64 reg, .int .i64 loc, ve, vf, .bool ne, .int .i64 tgt], .int .i64 regs, .int .i64 locs, .int .i64 many] w fun r w' => r = .returned (.bool (oneB ⟨3, reg, loc, e, f, ne, tgt⟩ regs locs many)) ∧ Below w.heap.size w w' := by
 have E0 : oneB ⟨3, reg, loc, e, f, ne, tgt⟩ regs locs many = ((inR reg regs) && (inR loc locs) && (tgt == 0) && (e.length == 0) && (f.length == 0) && !ne) := by
  unfold oneB
  simp only [show isOp 3 = true from by decide, show hasP 3 114 = true from by decide, show hasP 3 108 = true from by decide, show hasP 3 116 = false from by decide, show hasP 3 101 = false from by decide, show hasP 3 102 = false from by decide, show hasP 3 110 = false from by decide]
  simp
 rw [E0]
 clear E0
 have HP := Lib.hid (fun (w' : World) => (by exact parts_kind 3 w' : Calls Try.prog 75 #[.int .i64 3] w' fun e w2 => e = .returned (.tuple #[.string ⟨#[114, 108]⟩, .bool true]) ∧ Below w'.heap.size w' w2))
 have HH := Lib.hid (fun (c : Int) (w' : World) => has_ok ⟨#[114, 108]⟩ c w' (by decide))
 have g114 : hasB ⟨#[114, 108]⟩ 114 = true := by decide
 have g108 : hasB ⟨#[114, 108]⟩ 108 = true := by decide
 have g116 : hasB ⟨#[114, 108]⟩ 116 = false := by decide
 have g101 : hasB ⟨#[114, 108]⟩ 101 = false := by decide
 have g102 : hasB ⟨#[114, 108]⟩ 102 = false := by decide
 have g110 : hasB ⟨#[114, 108]⟩ 110 = false := by decide
 have I7 := Lib.hid in7_ok
 obtain ⟨qr, hqr⟩ : ∃ b, inR reg regs = b := ⟨_, rfl⟩
 obtain ⟨ql, hql⟩ : ∃ b, inR loc locs = b := ⟨_, rfl⟩
 rw [hqr, hql]
 obtain ⟨ea, ec, rfl, -⟩ := he
 obtain ⟨fa, fc, rfl, -⟩ := hf
 clear hle hlf
 generalize e.length = el at *
 generalize f.length = fl at *
 have S := Lib.hid (BxC.start w #[.int .i64 3, .int .i64 reg, .int .i64 loc, .slice ea el ec, .slice fa fl fc, .bool ne, .int .i64 tgt] 61)
 cases qr
 ·go_enter Try.func58, Try.ntmps58
  go_wp2_with ((first
   | (go_at_call 77; refine (I7.out _ _ _).mono ?_; simp only [hqr, hql]; rintro ee ww ⟨rfl, hb⟩; have S := Lib.hid (S.out.more hb); clear hb)
   | (go_at_call 76; refine (HH.out _ _).mono ?_; simp only [g114, g108, g116, g101, g102, g110]; rintro ee ww ⟨rfl, hb⟩; have S := Lib.hid (S.out.more hb); clear hb)
   | (go_at_call 75; refine (HP.out _).mono ?_; rintro ee ww ⟨rfl, hb⟩; have S := Lib.hid (S.out.more hb); clear hb)); (try clear c0 c1 c2 c3 c4 c5 c6); obtain ⟨c0, c1, c2, c3, c4, c5, c6⟩ := cells7 S.out.blk)
  go_ret
  exact ⟨by simp, S.out.below⟩
 cases ql
 ·go_enter Try.func58, Try.ntmps58
  go_wp2_with ((first
   | (go_at_call 77; refine (I7.out _ _ _).mono ?_; simp only [hqr, hql]; rintro ee ww ⟨rfl, hb⟩; have S := Lib.hid (S.out.more hb); clear hb)
   | (go_at_call 76; refine (HH.out _ _).mono ?_; simp only [g114, g108, g116, g101, g102, g110]; rintro ee ww ⟨rfl, hb⟩; have S := Lib.hid (S.out.more hb); clear hb)
   | (go_at_call 75; refine (HP.out _).mono ?_; rintro ee ww ⟨rfl, hb⟩; have S := Lib.hid (S.out.more hb); clear hb)); (try clear c0 c1 c2 c3 c4 c5 c6); obtain ⟨c0, c1, c2, c3, c4, c5, c6⟩ := cells7 S.out.blk)
  go_ret
  exact ⟨by simp, S.out.below⟩
 by_cases zt : tgt = 0
 rotate_left
 ·have n1 : (tgt != 0) = true := by simpa using zt
  have n2 : (tgt == 0) = false := by simpa using zt
  rw [n2]
  clear n2 zt
  go_enter Try.func58, Try.ntmps58
  go_wp2_with ((first
   | (go_at_call 76; refine (HH.out _ _).mono ?_; simp only [g114, g108, g116, g101, g102, g110]; rintro ee ww ⟨rfl, hb⟩; have S := Lib.hid (S.out.more hb); clear hb)
   | (go_at_call 77; refine (I7.out _ _ _).mono ?_; simp only [hqr, hql]; rintro ee ww ⟨rfl, hb⟩; have S := Lib.hid (S.out.more hb); clear hb)
   | (go_at_call 75; refine (HP.out _).mono ?_; rintro ee ww ⟨rfl, hb⟩; have S := Lib.hid (S.out.more hb); clear hb)); (try clear c0 c1 c2 c3 c4 c5 c6); obtain ⟨c0, c1, c2, c3, c4, c5, c6⟩ := cells7 S.out.blk)
  go_ret
  exact ⟨by simp, S.out.below⟩
 subst zt
 by_cases ze : el = 0
 rotate_left
 ·have n1 : (0 : Int) < (el : Int) := by omega
  have n2 : (el == 0) = false := by simpa using ze
  rw [n2]
  clear n2 ze
  go_enter Try.func58, Try.ntmps58
  go_wp2_with ((first
   | (go_at_call 76; refine (HH.out _ _).mono ?_; simp only [g114, g108, g116, g101, g102, g110]; rintro ee ww ⟨rfl, hb⟩; have S := Lib.hid (S.out.more hb); clear hb)
   | (go_at_call 77; refine (I7.out _ _ _).mono ?_; simp only [hqr, hql]; rintro ee ww ⟨rfl, hb⟩; have S := Lib.hid (S.out.more hb); clear hb)
   | (go_at_call 75; refine (HP.out _).mono ?_; rintro ee ww ⟨rfl, hb⟩; have S := Lib.hid (S.out.more hb); clear hb)); (try clear c0 c1 c2 c3 c4 c5 c6); obtain ⟨c0, c1, c2, c3, c4, c5, c6⟩ := cells7 S.out.blk)
  go_ret
  exact ⟨by simp, S.out.below⟩
 subst ze
 by_cases zf : fl = 0
 rotate_left
 ·have n1 : (0 : Int) < (fl : Int) := by omega
  have n2 : (fl == 0) = false := by simpa using zf
  rw [n2]
  clear n2 zf
  go_enter Try.func58, Try.ntmps58
  go_wp2_with ((first
   | (go_at_call 76; refine (HH.out _ _).mono ?_; simp only [g114, g108, g116, g101, g102, g110]; rintro ee ww ⟨rfl, hb⟩; have S := Lib.hid (S.out.more hb); clear hb)
   | (go_at_call 77; refine (I7.out _ _ _).mono ?_; simp only [hqr, hql]; rintro ee ww ⟨rfl, hb⟩; have S := Lib.hid (S.out.more hb); clear hb)
   | (go_at_call 75; refine (HP.out _).mono ?_; rintro ee ww ⟨rfl, hb⟩; have S := Lib.hid (S.out.more hb); clear hb)); (try clear c0 c1 c2 c3 c4 c5 c6); obtain ⟨c0, c1, c2, c3, c4, c5, c6⟩ := cells7 S.out.blk)
  go_ret
  exact ⟨by simp, S.out.below⟩
 subst zf
 go_enter Try.func58, Try.ntmps58
 go_wp2_with ((first
  | (go_at_call 76; refine (HH.out _ _).mono ?_; simp only [g114, g108, g116, g101, g102, g110]; rintro ee ww ⟨rfl, hb⟩; have S := Lib.hid (S.out.more hb); clear hb)
  | (go_at_call 77; refine (I7.out _ _ _).mono ?_; simp only [hqr, hql]; rintro ee ww ⟨rfl, hb⟩; have S := Lib.hid (S.out.more hb); clear hb)
  | (go_at_call 75; refine (HP.out _).mono ?_; rintro ee ww ⟨rfl, hb⟩; have S := Lib.hid (S.out.more hb); clear hb)); (try clear c0 c1 c2 c3 c4 c5 c6); obtain ⟨c0, c1, c2, c3, c4, c5, c6⟩ := cells7 S.out.blk)
 go_ret
 exact ⟨by simp, S.out.below⟩
set_option maxRecDepth 100000 in
set_option maxHeartbeats 64000000 in
theorem one_4 (reg loc tgt regs locs many : Int) (e f : List Ed) (ne : Bool) (ve vf : Value) (w : World) (he : EdgesAt w ve e) (hf : EdgesAt w vf f) (hle : e.length ≤ 1000000) (hlf : f.length ≤ 1000000) :
  Calls Try.prog 58 #[.agg #[.int .i64 4, .int .i64 reg, .int .i64 loc, ve, vf, .bool ne, .int .i64 tgt], .int .i64 regs, .int .i64 locs, .int .i64 many] w fun r w' => r = .returned (.bool (oneB ⟨4, reg, loc, e, f, ne, tgt⟩ regs locs many)) ∧ Below w.heap.size w w' := by
 have E0 : oneB ⟨4, reg, loc, e, f, ne, tgt⟩ regs locs many = ((reg == 0) && (inR loc locs) && (tgt == 0) && (codeB regs e) && (f.length == 0) && !ne) := by
  unfold oneB
  simp only [show isOp 4 = true from by decide, show hasP 4 114 = false from by decide, show hasP 4 108 = true from by decide, show hasP 4 116 = false from by decide, show hasP 4 101 = true from by decide, show hasP 4 102 = false from by decide, show hasP 4 110 = false from by decide]
  simp
 rw [E0]
 clear E0
 have HP := Lib.hid (fun (w' : World) => (by exact parts_kind 4 w' : Calls Try.prog 75 #[.int .i64 4] w' fun e w2 => e = .returned (.tuple #[.string ⟨#[108, 101]⟩, .bool true]) ∧ Below w'.heap.size w' w2))
 have HH := Lib.hid (fun (c : Int) (w' : World) => has_ok ⟨#[108, 101]⟩ c w' (by decide))
 have g114 : hasB ⟨#[108, 101]⟩ 114 = false := by decide
 have g108 : hasB ⟨#[108, 101]⟩ 108 = true := by decide
 have g116 : hasB ⟨#[108, 101]⟩ 116 = false := by decide
 have g101 : hasB ⟨#[108, 101]⟩ 101 = true := by decide
 have g102 : hasB ⟨#[108, 101]⟩ 102 = false := by decide
 have g110 : hasB ⟨#[108, 101]⟩ 110 = false := by decide
 have I7 := Lib.hid in7_ok
 have Ie := Lib.hid (fun (w' : World) (hb : Below w.heap.size w w') => code_ok ve e regs w' (he.below hb) hle)
 obtain ⟨ql, hql⟩ : ∃ b, inR loc locs = b := ⟨_, rfl⟩
 obtain ⟨qe, hqe⟩ : ∃ b, codeB regs e = b := ⟨_, rfl⟩
 rw [hql, hqe]
 obtain ⟨ea, ec, rfl, -⟩ := he
 obtain ⟨fa, fc, rfl, -⟩ := hf
 clear hle hlf
 generalize e.length = el at *
 generalize f.length = fl at *
 have S := Lib.hid (BxC.start w #[.int .i64 4, .int .i64 reg, .int .i64 loc, .slice ea el ec, .slice fa fl fc, .bool ne, .int .i64 tgt] 61)
 by_cases zr : reg = 0
 rotate_left
 ·have n1 : (reg != 0) = true := by simpa using zr
  have n2 : (reg == 0) = false := by simpa using zr
  rw [n2]
  clear n2 zr
  go_enter Try.func58, Try.ntmps58
  go_wp2_with ((first
   | (go_at_call 76; refine (HH.out _ _).mono ?_; simp only [g114, g108, g116, g101, g102, g110]; rintro ee ww ⟨rfl, hb⟩; have S := Lib.hid (S.out.more hb); clear hb)
   | (go_at_call 75; refine (HP.out _).mono ?_; rintro ee ww ⟨rfl, hb⟩; have S := Lib.hid (S.out.more hb); clear hb)); (try clear c0 c1 c2 c3 c4 c5 c6); obtain ⟨c0, c1, c2, c3, c4, c5, c6⟩ := cells7 S.out.blk)
  go_ret
  exact ⟨by simp, S.out.below⟩
 subst zr
 cases ql
 ·go_enter Try.func58, Try.ntmps58
  go_wp2_with ((first
   | (go_at_call 77; refine (I7.out _ _ _).mono ?_; simp only [hql]; rintro ee ww ⟨rfl, hb⟩; have S := Lib.hid (S.out.more hb); clear hb)
   | (go_at_call 76; refine (HH.out _ _).mono ?_; simp only [g114, g108, g116, g101, g102, g110]; rintro ee ww ⟨rfl, hb⟩; have S := Lib.hid (S.out.more hb); clear hb)
   | (go_at_call 75; refine (HP.out _).mono ?_; rintro ee ww ⟨rfl, hb⟩; have S := Lib.hid (S.out.more hb); clear hb)); (try clear c0 c1 c2 c3 c4 c5 c6); obtain ⟨c0, c1, c2, c3, c4, c5, c6⟩ := cells7 S.out.blk)
  go_ret
  exact ⟨by simp, S.out.below⟩
 by_cases zt : tgt = 0
 rotate_left
 ·have n1 : (tgt != 0) = true := by simpa using zt
  have n2 : (tgt == 0) = false := by simpa using zt
  rw [n2]
  clear n2 zt
  go_enter Try.func58, Try.ntmps58
  go_wp2_with ((first
   | (go_at_call 76; refine (HH.out _ _).mono ?_; simp only [g114, g108, g116, g101, g102, g110]; rintro ee ww ⟨rfl, hb⟩; have S := Lib.hid (S.out.more hb); clear hb)
   | (go_at_call 77; refine (I7.out _ _ _).mono ?_; simp only [hql]; rintro ee ww ⟨rfl, hb⟩; have S := Lib.hid (S.out.more hb); clear hb)
   | (go_at_call 75; refine (HP.out _).mono ?_; rintro ee ww ⟨rfl, hb⟩; have S := Lib.hid (S.out.more hb); clear hb)); (try clear c0 c1 c2 c3 c4 c5 c6); obtain ⟨c0, c1, c2, c3, c4, c5, c6⟩ := cells7 S.out.blk)
  go_ret
  exact ⟨by simp, S.out.below⟩
 subst zt
 cases qe
 ·go_enter Try.func58, Try.ntmps58
  go_wp2_with ((first
   | (go_at_call 78; refine (Ie.out _ S.out.below).mono ?_; simp only [hqe]; rintro ee ww ⟨rfl, hb⟩; have S := Lib.hid (S.out.more hb); clear hb)
   | (go_at_call 76; refine (HH.out _ _).mono ?_; simp only [g114, g108, g116, g101, g102, g110]; rintro ee ww ⟨rfl, hb⟩; have S := Lib.hid (S.out.more hb); clear hb)
   | (go_at_call 77; refine (I7.out _ _ _).mono ?_; simp only [hql]; rintro ee ww ⟨rfl, hb⟩; have S := Lib.hid (S.out.more hb); clear hb)
   | (go_at_call 75; refine (HP.out _).mono ?_; rintro ee ww ⟨rfl, hb⟩; have S := Lib.hid (S.out.more hb); clear hb)); (try clear c0 c1 c2 c3 c4 c5 c6); obtain ⟨c0, c1, c2, c3, c4, c5, c6⟩ := cells7 S.out.blk)
  go_ret
  exact ⟨by simp, S.out.below⟩
 by_cases zf : fl = 0
 rotate_left
 ·have n1 : (0 : Int) < (fl : Int) := by omega
  have n2 : (fl == 0) = false := by simpa using zf
  rw [n2]
  clear n2 zf
  go_enter Try.func58, Try.ntmps58
  go_wp2_with ((first
   | (go_at_call 76; refine (HH.out _ _).mono ?_; simp only [g114, g108, g116, g101, g102, g110]; rintro ee ww ⟨rfl, hb⟩; have S := Lib.hid (S.out.more hb); clear hb)
   | (go_at_call 78; refine (Ie.out _ S.out.below).mono ?_; simp only [hqe]; rintro ee ww ⟨rfl, hb⟩; have S := Lib.hid (S.out.more hb); clear hb)
   | (go_at_call 77; refine (I7.out _ _ _).mono ?_; simp only [hql]; rintro ee ww ⟨rfl, hb⟩; have S := Lib.hid (S.out.more hb); clear hb)
   | (go_at_call 75; refine (HP.out _).mono ?_; rintro ee ww ⟨rfl, hb⟩; have S := Lib.hid (S.out.more hb); clear hb)); (try clear c0 c1 c2 c3 c4 c5 c6); obtain ⟨c0, c1, c2, c3, c4, c5, c6⟩ := cells7 S.out.blk)
  go_ret
  exact ⟨by simp, S.out.below⟩
 subst zf
 go_enter Try.func58, Try.ntmps58
 go_wp2_with ((first
  | (go_at_call 76; refine (HH.out _ _).mono ?_; simp only [g114, g108, g116, g101, g102, g110]; rintro ee ww ⟨rfl, hb⟩; have S := Lib.hid (S.out.more hb); clear hb)
  | (go_at_call 78; refine (Ie.out _ S.out.below).mono ?_; simp only [hqe]; rintro ee ww ⟨rfl, hb⟩; have S := Lib.hid (S.out.more hb); clear hb)
  | (go_at_call 77; refine (I7.out _ _ _).mono ?_; simp only [hql]; rintro ee ww ⟨rfl, hb⟩; have S := Lib.hid (S.out.more hb); clear hb)
  | (go_at_call 75; refine (HP.out _).mono ?_; rintro ee ww ⟨rfl, hb⟩; have S := Lib.hid (S.out.more hb); clear hb)); (try clear c0 c1 c2 c3 c4 c5 c6); obtain ⟨c0, c1, c2, c3, c4, c5, c6⟩ := cells7 S.out.blk)
 go_ret
 exact ⟨by simp, S.out.below⟩
end Go.Proofs.Ytlhpjfnfemebdaa
