/-
  edges.Keep: the closure that tells.
-/
import Derived.Test.YtnlaonppgebpoaaBack
namespace Go.Proofs.Ytnlaonppgebpoaa
open Go.RowKit

def keepE (l : List Bool) (e : Ed) : Ed × Bool := (e, inB l e.1 && inB l e.2.2)
set_option maxRecDepth 100000 in
set_option maxHeartbeats 16000000 in
theorem keep_tell (l : List Bool) (v : Value) (w0 : World) (b c : Nat) (h : BoolsAt w0 v l) (hl : l.length ≤ 9223372036854775807) (hb : w0.cell? ⟨b, 0, none⟩ = some v) (hc : w0.cell? ⟨c, 0, none⟩ = some (.func (.func 78) #[] #[.pointer (some ⟨b, 0, none⟩)])) :
    Tell 79 #[.pointer (some ⟨c, 0, none⟩)] w0 (keepE l) := by
  refine ⟨enters_of Try.func79 (by kernel_rfl) rfl, ?_⟩
  rintro ⟨x, y, z⟩ w hx hz hw
  have hE' : ∀ (args : Array Value) (w : World), (callFunc 78 args).run Try.prog w = .ok (.enter 78 args) w := enters_of Try.func78 (by kernel_rfl) rfl
  have hw2 := (hw.trans ((balloc w (.cells #[.int .i64 x, .int .i64 y, .int .i64 z] 44)).mono hw.size)).trans ((balloc (w.alloc (.cells #[.int .i64 x, .int .i64 y, .int .i64 z] 44)) (.cells #[.int .i64 0, .int .i64 0, .int .i64 0] 44)).mono (by have := hw.size; simp; omega))
  have HI := Lib.hid (fun i (hi : 0 ≤ i) => is_ok l i hi v b ((w.alloc (.cells #[.int .i64 x, .int .i64 y, .int .i64 z] 44)).alloc (.cells #[.int .i64 0, .int .i64 0, .int .i64 0] 44)).drew (h.below hw2.drew) (bkeep hw2.drew hb) hl)
  have d := bkeep hw2 hc
  have EK : keepE l (x, y, z) = ((x, y, z), inB l x && inB l z) := rfl
  rw [EK]
  clear EK h hb hc hw hw2
  have H1 := Lib.hid (HI.out x hx)
  have H2 := Lib.hid (HI.out z hz)
  show Calls Try.prog 79 #[.agg #[.int .i64 x, .int .i64 y, .int .i64 z], .pointer (some ⟨c, 0, none⟩)] w _
  generalize inB l x = bx at *
  generalize inB l z = bz at *
  clear HI
  have HW := Lib.hid ((balloc w (.cells #[.int .i64 x, .int .i64 y, .int .i64 z] 44)).trans ((balloc (w.alloc (.cells #[.int .i64 x, .int .i64 y, .int .i64 z] 44)) (.cells #[.int .i64 x, .int .i64 y, .int .i64 z] 44)).mono (by simp))).drew
  cases bx
  · go_enter Try.func79, Try.ntmps79
    go_wp2_with fail
    first
      | go_region_with (first
        | (go_at_call_of 78 (Value.int .i64 x); go_at_fn 78; refine H1.out.mono ?_; rintro e w' ⟨rfl, rfl⟩)
        | (go_at_call_of 78 (Value.int .i64 z); go_at_fn 78; refine H2.out.mono ?_; rintro e w' ⟨rfl, rfl⟩))
      | fail
    all_goals go_wp2_with fail
    all_goals refine bodyPost_ret (v := .tuple #[.agg #[.int .i64 x, .int .i64 y, .int .i64 z], .bool false]) (by simp [results, Try.results79, go_sem]) rfl ?_
    all_goals exact ⟨rfl, HW.out⟩
  · go_enter Try.func79, Try.ntmps79
    go_wp2_with fail
    first
      | go_region_with (first
        | (go_at_call_of 78 (Value.int .i64 x); go_at_fn 78; refine H1.out.mono ?_; rintro e w' ⟨rfl, rfl⟩)
        | (go_at_call_of 78 (Value.int .i64 z); go_at_fn 78; refine H2.out.mono ?_; rintro e w' ⟨rfl, rfl⟩))
      | fail
    all_goals go_wp2_with fail
    all_goals refine bodyPost_ret (v := .tuple #[.agg #[.int .i64 x, .int .i64 y, .int .i64 z], .bool bz]) (by simp [results, Try.results79, go_sem]) rfl ?_
    all_goals exact ⟨rfl, HW.out⟩
end Go.Proofs.Ytnlaonppgebpoaa
