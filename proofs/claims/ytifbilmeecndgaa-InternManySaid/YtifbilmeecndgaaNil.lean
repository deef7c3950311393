/-
  A table that is not there; 'known'.
-/
import Derived.Test.YtifbilmeecndgaaRef
namespace Go.Proofs.Ytifbilmeecndgaa
open Go.RowKit

/-- A pointer at which there is no table: nil, or a struct of zeros. -/
def NoTab (w : World) (v : Value) : Prop := v = .pointer none ∨ ∃ b, v = .pointer (some ⟨b, 0, none⟩) ∧ w.cell? ⟨b, 0, none⟩ = some (.slice none 0 0) ∧ w.cell? ⟨b, 1, none⟩ = some (.slice none 0 0)

theorem NoTab.below {w w' : World} {v : Value} (h : NoTab w v) (hb : Below w.heap.size w w') : NoTab w' v := by
  rcases h with h | ⟨b, h, h1, h2⟩
  · exact .inl h
  · exact .inr ⟨b, h, bkeep hb h1, bkeep hb h2⟩

theorem there_no {w : World} {v : Value} (h : NoTab w v) : Calls Try.prog 20 #[v] w fun e w' => e = .returned (.bool false) ∧ w = w' := by
  rcases h with rfl | ⟨b, rfl, h1, h2⟩
  · exact there_nil w
  · exact there_zero w b h2

section
variable {w : World} {v : Value} (h : NoTab w v)
include h
set_option maxHeartbeats 400000 in
theorem put_no (s : ByteArray) : Calls Try.prog 10 #[v, .string s] w fun e w' => e = .returned (.tuple #[.int .i64 0, .bool false]) ∧ w = w' := by
  have T := there_no h
  have HT := Lib.hid T
  clear T h
  go_enter Try.func10, Try.ntmps10
  go_wp2_with (first | (go_at_call 20; refine HT.out.mono ?_; rintro e w1 ⟨rfl, rfl⟩))
  go_ret2
  exact ⟨rfl, rfl⟩
set_option maxHeartbeats 400000 in
theorem get_no (s : ByteArray) : Calls Try.prog 12 #[v, .string s] w fun e w' => e = .returned (.tuple #[.int .i64 0, .bool false]) ∧ w = w' := by
  have T := there_no h
  have HT := Lib.hid T
  clear T h
  go_enter Try.func12, Try.ntmps12
  go_wp2_with (first | (go_at_call 20; refine HT.out.mono ?_; rintro e w1 ⟨rfl, rfl⟩))
  go_ret2
  exact ⟨rfl, rfl⟩
set_option maxHeartbeats 400000 in
theorem at_no (i : Int) : Calls Try.prog 18 #[v, .int .i64 i] w fun e w' => e = .returned (.tuple #[.string ByteArray.empty, .bool false]) ∧ w = w' := by
  have T := there_no h
  have HT := Lib.hid T
  clear T h
  go_enter Try.func18, Try.ntmps18
  go_wp2_with (first | (go_at_call 20; refine HT.out.mono ?_; rintro e w1 ⟨rfl, rfl⟩))
  go_ret2
  exact ⟨rfl, rfl⟩
set_option maxHeartbeats 400000 in
theorem len_no : Calls Try.prog 14 #[v] w fun e w' => e = .returned (.int .i64 0) ∧ w = w' := by
  have T := there_no h
  have HT := Lib.hid T
  clear T h
  go_enter Try.func14, Try.ntmps14
  go_wp2_with (first | (go_at_call 20; refine HT.out.mono ?_; rintro e w1 ⟨rfl, rfl⟩))
  go_ret
  exact ⟨rfl, rfl⟩
set_option maxHeartbeats 400000 in
theorem slots_no : Calls Try.prog 15 #[v] w fun e w' => e = .returned (.int .i64 0) ∧ w = w' := by
  have T := there_no h
  have HT := Lib.hid T
  clear T h
  go_enter Try.func15, Try.ntmps15
  go_wp2_with (first | (go_at_call 20; refine HT.out.mono ?_; rintro e w1 ⟨rfl, rfl⟩))
  go_ret
  exact ⟨rfl, rfl⟩
set_option maxHeartbeats 400000 in
theorem all_no : Calls Try.prog 17 #[v] w fun e w' => e = .returned (.slice none 0 0) ∧ w = w' := by
  have T := there_no h
  have HT := Lib.hid T
  clear T h
  go_enter Try.func17, Try.ntmps17
  go_wp2_with (first | (go_at_call 20; refine HT.out.mono ?_; rintro e w1 ⟨rfl, rfl⟩))
  go_ret
  exact ⟨rfl, rfl⟩
end

/-- A table made since w0, nothing older turned. -/
def TabNew (w0 w : World) (tb : Nat) (L : List ByteArray) : Prop := Below w0.heap.size w0 w ∧ ∃ f, TabOk w tb L f ∧ ∀ k, f k → w0.heap.size ≤ k

theorem TabNew.below {w0 w w' : World} {tb : Nat} {L : List ByteArray} (h : TabNew w0 w tb L) (hb : Below w.heap.size w w') : TabNew w0 w' tb L :=
  let ⟨h1, f, h2, h3⟩ := h
  ⟨h1.trans (hb.mono h1.size), f, h2.below hb, h3⟩

theorem putN {w0 w : World} {tb : Nat} {L : List ByteArray} (h : TabNew w0 w tb L) (s : ByteArray) (hs : s.size ≤ 200) (hL : L.length < 99999) :
    Calls Try.prog 10 #[.pointer (some ⟨tb, 0, none⟩), .string s] w fun e w' => e = .returned (.tuple #[.int .i64 (idx s L : Nat), .bool (isNew s L)]) ∧ TabNew w0 w' tb (putL L s) := by
  obtain ⟨h1, f, h2, h3⟩ := h
  refine (put_ok h2 s hs hL).mono ?_
  rintro e w' ⟨rfl, hF, f', hT, hk⟩
  refine ⟨rfl, h1.trans (hF.below h3 h1.size), f', hT, fun k hk' => (hk k hk').elim (h3 k) (fun e => Nat.le_trans h1.size e)⟩
theorem newN (w : World) : Calls Try.prog 9 #[] w fun e w' => ∃ tb, e = .returned (.pointer (some ⟨tb, 0, none⟩)) ∧ TabNew w w' tb [] := by
  refine (new_ok w).mono ?_
  rintro e w' ⟨tb, f, rfl, h1, h2, h3⟩
  exact ⟨tb, rfl, h3, f, h1, h2⟩
theorem getN_ok {w0 w : World} {tb : Nat} {L : List ByteArray} (h : TabNew w0 w tb L) (s : ByteArray) (hs : s.size ≤ 200) :
    Calls Try.prog 12 #[.pointer (some ⟨tb, 0, none⟩), .string s] w fun e w' => e = .returned (.tuple #[.int .i64 (getN s L : Nat), .bool (isIn s L)]) ∧ TabNew w0 w' tb L ∧ Below w.heap.size w w' := by
  obtain ⟨h1, f, h2, h3⟩ := h
  refine (get_ok h2 s hs).mono ?_
  rintro e w' ⟨rfl, hb⟩
  exact ⟨rfl, TabNew.below ⟨h1, f, h2, h3⟩ hb, hb⟩

theorem ptr_ne (tb : Nat) (w : World) : (binOp .eql 25 (.pointer (some ⟨tb, 0, none⟩)) (.pointer none)).run Try.prog w = .ok (.bool false) w := by kernel_rfl

def A : ByteArray := { data := #[97] }
def B : ByteArray := { data := #[98] }
def C : ByteArray := { data := #[99] }

set_option maxHeartbeats 1000000 in
theorem known_ok (w : World) : Calls Try.prog 8 #[] w fun e w' => e = .returned (.bool true) ∧ Below w.heap.size w w' := by
  have p1 : ∀ w1 tb, TabNew w w1 tb [] → Calls Try.prog 10 #[.pointer (some ⟨tb, 0, none⟩), .string { data := #[97] }] w1 fun e w' => e = .returned (.tuple #[.int .i64 0, .bool true]) ∧ TabNew w w' tb [A] := fun w1 tb h => putN h A (by decide) (by decide)
  have p2 : ∀ w1 tb, TabNew w w1 tb [A] → Calls Try.prog 10 #[.pointer (some ⟨tb, 0, none⟩), .string { data := #[98] }] w1 fun e w' => e = .returned (.tuple #[.int .i64 1, .bool true]) ∧ TabNew w w' tb [A, B] := fun w1 tb h => putN h B (by decide) (by decide)
  have p3 : ∀ w1 tb, TabNew w w1 tb [A, B] → Calls Try.prog 10 #[.pointer (some ⟨tb, 0, none⟩), .string { data := #[97] }] w1 fun e w' => e = .returned (.tuple #[.int .i64 0, .bool false]) ∧ TabNew w w' tb [A, B] := fun w1 tb h => putN h A (by decide) (by decide)
  have p4 : ∀ w1 tb, TabNew w w1 tb [A, B] → Calls Try.prog 12 #[.pointer (some ⟨tb, 0, none⟩), .string { data := #[98] }] w1 fun e w' => e = .returned (.tuple #[.int .i64 1, .bool true]) ∧ TabNew w w' tb [A, B] ∧ Below w1.heap.size w1 w' := fun w1 tb h => getN_ok h B (by decide)
  have p5 : ∀ w1 tb, TabNew w w1 tb [A, B] → Calls Try.prog 12 #[.pointer (some ⟨tb, 0, none⟩), .string { data := #[99] }] w1 fun e w' => e = .returned (.tuple #[.int .i64 0, .bool false]) ∧ TabNew w w' tb [A, B] ∧ Below w1.heap.size w1 w' := fun w1 tb h => getN_ok h C (by decide)
  have p6 : ∀ w1 tb, TabNew w w1 tb [A, B] → Calls Try.prog 18 #[.pointer (some ⟨tb, 0, none⟩), .int .i64 1] w1 fun e w' => e = .returned (.tuple #[.string { data := #[98] }, .bool true]) ∧ w1 = w' := fun w1 tb h => at_ok h.2.choose_spec.1 1
  have p7 : ∀ w1 tb, TabNew w w1 tb [A, B] → Calls Try.prog 14 #[.pointer (some ⟨tb, 0, none⟩)] w1 fun e w' => e = .returned (.int .i64 2) ∧ w1 = w' := fun w1 tb h => len_ok h.2.choose_spec.1
  have p8 : ∀ w1 tb, TabNew w w1 tb [A, B] → Calls Try.prog 15 #[.pointer (some ⟨tb, 0, none⟩)] w1 fun e w' => e = .returned (.int .i64 16) ∧ w1 = w' := fun w1 tb h => slots_ok h.2.choose_spec.1
  have p9 : ∀ w1 tb, TabNew w w1 tb [A, B] → Calls Try.prog 17 #[.pointer (some ⟨tb, 0, none⟩)] w1 fun e w' => ∃ a c, e = .returned (.slice a 2 c) ∧ TabNew w w' tb [A, B] := fun w1 tb h => by
    refine (all_ok h.2.choose_spec.1).mono ?_
    rintro e w' ⟨v, a, c, rfl, rfl, _, hb⟩
    exact ⟨a, c, rfl, h.below hb⟩
  have P1 := Lib.hid p1
  have P2 := Lib.hid p2
  have P3 := Lib.hid p3
  have P4 := Lib.hid p4
  have P5 := Lib.hid p5
  have P6 := Lib.hid p6
  have P7 := Lib.hid p7
  have P8 := Lib.hid p8
  have P9 := Lib.hid p9
  have pn := ptr_ne
  clear p1 p2 p3 p4 p5 p6 p7 p8 p9
  go_enter Try.func8, Try.ntmps8
  go_wp2_with (go_at_call 9; refine (newN w).mono ?_; rintro e w1 ⟨tb, rfl, h1⟩)
  refine (P1.out _ _ h1).mono ?_
  clear h1
  rintro e w2 ⟨rfl, h1⟩
  go_wp2_with fail
  refine (P2.out _ _ h1).mono ?_
  clear h1
  rintro e w2 ⟨rfl, h1⟩
  go_wp2_with fail
  refine (P3.out _ _ h1).mono ?_
  clear h1
  rintro e w2 ⟨rfl, h1⟩
  go_wp2_with fail
  refine (P4.out _ _ h1).mono ?_
  clear h1
  rintro e w2 ⟨rfl, h1, _⟩
  go_wp2_with fail
  refine (P5.out _ _ h1).mono ?_
  clear h1
  rintro e w2 ⟨rfl, h1, _⟩
  go_wp2_with fail
  refine (P6.out _ _ h1).mono ?_
  rintro e w3 ⟨rfl, rfl⟩
  go_wp2_with fail
  refine (P7.out _ _ h1).mono ?_
  rintro e w3 ⟨rfl, rfl⟩
  go_wp2_with fail
  refine (P8.out _ _ h1).mono ?_
  rintro e w3 ⟨rfl, rfl⟩
  go_wp2_with fail
  refine (P9.out _ _ h1).mono ?_
  clear h1
  rintro e w3 ⟨a, c, rfl, h1⟩
  go_wp2_with fail
  go_ret
  exact ⟨rfl, h1.1⟩
end Go.Proofs.Ytifbilmeecndgaa
