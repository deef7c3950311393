/-
  The walk of InternNil.
-/
import Derived.Test.YtifbilmeecndgaaNil
namespace Go.Proofs.Ytifbilmeecndgaa
open Go.RowKit

theorem noTab_zero (w : World) : NoTab (w.alloc (.cells #[.slice none 0 0, .slice none 0 0] 43)) (.pointer (some ⟨w.heap.size, 0, none⟩)) :=
  .inr ⟨_, rfl, cell_of_block (heap_alloc_new w _) 0 _ rfl, cell_of_block (heap_alloc_new w _) 1 _ rfl⟩
theorem noTab_nil (w : World) : NoTab w (.pointer none) := .inl rfl

set_option maxHeartbeats 1000000 in
theorem lawNil (s : ByteArray) (w : World) (hs : s.size ≤ maxLen) : Calls Try.prog 5 #[.string s] w fun e w' => e = .returned (.bool true) ∧ Below w.heap.size w w' := by
  unfold maxLen at hs
  by_cases h : 200 < s.size
  · go_enter Try.func5, Try.ntmps5
    go_wp2_with (go_at_call 8; refine (known_ok _).mono ?_; rintro e w1 ⟨rfl, hb⟩)
    go_ret
    exact ⟨rfl, hb⟩
  · have HZ := Lib.hid (noTab_zero w)
    go_enter Try.func5, Try.ntmps5
    go_wp2_with (first | (go_at_call 10; (first | (with_reducible refine (put_no (noTab_nil _) _).mono ?_) | (with_reducible refine (put_no HZ.out _).mono ?_)); rintro e w1 ⟨rfl, rfl⟩) | (go_at_call 12; (first | (with_reducible refine (get_no (noTab_nil _) _).mono ?_) | (with_reducible refine (get_no HZ.out _).mono ?_)); rintro e w1 ⟨rfl, rfl⟩) | (go_at_call 18; (first | (with_reducible refine (at_no (noTab_nil _) _).mono ?_) | (with_reducible refine (at_no HZ.out _).mono ?_)); rintro e w1 ⟨rfl, rfl⟩) | (go_at_call 14; (first | (with_reducible refine (len_no (noTab_nil _)).mono ?_) | (with_reducible refine (len_no HZ.out).mono ?_)); rintro e w1 ⟨rfl, rfl⟩) | (go_at_call 15; (first | (with_reducible refine (slots_no (noTab_nil _)).mono ?_) | (with_reducible refine (slots_no HZ.out).mono ?_)); rintro e w1 ⟨rfl, rfl⟩) | (go_at_call 17; (first | (with_reducible refine (all_no (noTab_nil _)).mono ?_) | (with_reducible refine (all_no HZ.out).mono ?_)); rintro e w1 ⟨rfl, rfl⟩) | (go_at_call 8; refine (known_ok _).mono ?_; rintro e w1 ⟨rfl, hb⟩))
    go_ret
    exact ⟨rfl, ((Below.refl _ _).alloc (Nat.le_refl _) _).trans (hb.mono (by simp))⟩
end Go.Proofs.Ytifbilmeecndgaa
