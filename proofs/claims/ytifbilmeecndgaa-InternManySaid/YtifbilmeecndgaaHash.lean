/-
  intern.hash: what it computes: a function of the text alone.
-/
import Derived.Test.YtifbilmeecndgaaRows
import Derived.Test.YtifbilmeecndgaaBase
import Derived.Laws.CopyOwn
namespace Go.Proofs.Ytifbilmeecndgaa
open Go.RowKit

/-- a byte of a text, 0 behind its end -/
def byteAt (s : ByteArray) (k : Nat) : Int := ((s.data.toList[k]?).getD 0).toNat
theorem byteAt_bd (s : ByteArray) (k : Nat) : 0 ≤ byteAt s k ∧ byteAt s k < 256 := by
  unfold byteAt; have := UInt8.toNat_lt ((s.data.toList[k]?).getD 0); omega
def mix (h b : Int) : Int := IntKind.u64.wrap (bits BinOp.xor IntKind.u64 h b * 1099511628211)
def round8 (s : ByteArray) (k : Nat) (h : Int) : Int :=
  mix (mix (mix (mix (mix (mix (mix (mix h (byteAt s k)) (byteAt s (k+1))) (byteAt s (k+2))) (byteAt s (k+3))) (byteAt s (k+4))) (byteAt s (k+5))) (byteAt s (k+6))) (byteAt s (k+7))
def hashTo (s : ByteArray) : Nat → Int
  | 0 => 14695981039346656037
  | r + 1 => round8 s (8 * r) (hashTo s r)
/-- the hash of a text -/
def hashOf (s : ByteArray) : Int :=
  let m := mix (hashTo s ((s.size + 7) / 8)) s.size
  bits BinOp.xor IntKind.u64 m (m / 536870912)

theorem wrap_u64_bd (x : Int) : 0 ≤ IntKind.u64.wrap x ∧ IntKind.u64.wrap x < 18446744073709551616 := by
  rw [IntKind.wrap_u64]; omega
theorem hashTo_bd (s : ByteArray) (r : Nat) : 0 ≤ hashTo s r ∧ hashTo s r < 18446744073709551616 := by
  cases r with
  | zero => simp only [hashTo]; omega
  | succ r => exact wrap_u64_bd _

theorem part_cells (s : ByteArray) (k : Nat) (hk : k ≤ s.size) (z : Value) (hz : z = .int .u8 0) :
    ∀ cs : List Value, cs = ((s.extract k s.size).data.toList.take 8).map (fun b => Value.int .u8 b.toNat) →
    (#[z, z, z, z, z, z, z, z].toList.take 0 ++ cs ++ #[z, z, z, z, z, z, z, z].toList.drop (0 + cs.length)).toArray =
      #[.int .u8 (byteAt s k), .int .u8 (byteAt s (k+1)), .int .u8 (byteAt s (k+2)), .int .u8 (byteAt s (k+3)), .int .u8 (byteAt s (k+4)), .int .u8 (byteAt s (k+5)), .int .u8 (byteAt s (k+6)), .int .u8 (byteAt s (k+7))] := by
  intro cs hcs
  subst hz
  have hd : (s.extract k s.size).data.toList = s.data.toList.drop k := by
    have : (s.extract k s.size).data = s.data.extract k s.size := by simp
    rw [this]
    simp only [Array.toList_extract, List.extract_eq_take_drop]
    rw [List.take_of_length_le (by simp)]
  rw [hd] at hcs
  have hlen : cs.length ≤ 8 := by subst hcs; simp; omega
  have hget : ∀ i, i < 8 → (cs ++ (List.replicate 8 (Value.int .u8 0)).drop cs.length)[i]? = some (.int .u8 (byteAt s (k + i))) := by
    intro i hi
    by_cases hc : i < cs.length
    · rw [List.getElem?_append_left hc, hcs]
      have : k + i < s.data.toList.length := by subst hcs; simp at hc ⊢; omega
      have hs : s.data.toList[k + i]? = some s.data.toList[k + i] := List.getElem?_eq_getElem this
      rw [List.getElem?_map, List.getElem?_take, if_pos hi, List.getElem?_drop]
      unfold byteAt
      rw [hs]; rfl
    · rw [List.getElem?_append_right (by omega)]
      have : s.data.toList.length ≤ k + i := by
        have : cs.length = min 8 (s.data.toList.length - k) := by subst hcs; simp
        omega
      have hn : s.data.toList[k + i]? = none := List.getElem?_eq_none this
      rw [List.getElem?_drop, show cs.length + (i - cs.length) = i by omega, List.getElem?_replicate, if_pos hi]
      unfold byteAt
      rw [hn]; rfl
  have hl8 : (cs ++ (List.replicate 8 (Value.int .u8 0)).drop cs.length).length = 8 := by simp; omega
  show (List.take 0 (List.replicate 8 (Value.int .u8 0)) ++ cs ++ (List.replicate 8 (Value.int .u8 0)).drop (0 + cs.length)).toArray = _
  rw [List.take_zero, List.nil_append, Nat.zero_add]
  congr 1
  apply List.ext_getElem?
  intro i
  by_cases hi : i < 8
  · rw [hget i hi]
    match i, hi with
    | 0, _ => rfl
    | 1, _ => rfl
    | 2, _ => rfl
    | 3, _ => rfl
    | 4, _ => rfl
    | 5, _ => rfl
    | 6, _ => rfl
    | 7, _ => rfl
  · rw [List.getElem?_eq_none (by omega), List.getElem?_eq_none (by simp; omega)]

set_option maxHeartbeats 1000000 in
theorem hash_any (s : ByteArray) (w : World) (hs : s.size ≤ 200) :
    Calls Try.prog 23 #[.string s] w fun e w' => e = .returned (.int .u64 (hashOf s)) ∧ Below w.heap.size w w' := by
  go_enter Try.func23, Try.ntmps23
  go_wp2
  go_loopw [3, 4, 5, 7] (fun h i p q wr => ∃ r : Nat, 8 * r ≤ s.size + 7 ∧ i = .int .i64 ((8 * r : Nat) : Int) ∧ h = .int .u64 (hashTo s r) ∧ Below w.heap.size w wr) (fun _ i _ _ _ => s.size + 8 - (intOf i).toNat)
  case atStart => exact ⟨0, by omega, rfl, rfl, Below.refl _ _⟩
  case round =>
    obtain ⟨r, hr, rfl, rfl, hb⟩ := hrel
    have hbd := hashTo_bd s r
    have HS0 : hashTo s (r + 1) = round8 s (8 * r) (hashTo s r) := rfl
    obtain ⟨k, hk⟩ : ∃ k, k = 8 * r := ⟨_, rfl⟩
    rw [← hk] at hr HS0 ⊢
    have HS := Lib.hid HS0
    clear HS0
    generalize hn : hashTo s r = n at *
    have Hn := Lib.hid hn
    have Hk := Lib.hid hk
    clear hn hk
    obtain ⟨hn0, hn1⟩ := hbd
    by_cases hlt : k < s.size
    · have hle : k ≤ s.size := by omega
      go_wp2
      refine region_tail 4 (by kernel_rfl) (by kernel_rfl) ?_
      simp only [List.take_succ_cons, List.take_zero, List.drop_succ_cons, List.drop_zero]
      repeat still_step
      refine wpStill_nil ?_
      refine wpList_copy_str rfl (.tmp 14) (.tmp 17) 39 9 rfl 5 Try.underlying39 (by kernel_rfl) wr.heap.size 0 8 8 (s.extract k s.size) rfl rfl _ 48 (heap_alloc_new wr _) _ rfl (by simp; omega) ?_
      rw [part_cells s k hle _ rfl _ rfl]
      have hb1 : Below w.heap.size w ((wr.alloc (.cells #[.int .u8 0, .int .u8 0, .int .u8 0, .int .u8 0, .int .u8 0, .int .u8 0, .int .u8 0, .int .u8 0] 48)).drew.setRow wr.heap.size #[.int .u8 (byteAt s k), .int .u8 (byteAt s (k+1)), .int .u8 (byteAt s (k+2)), .int .u8 (byteAt s (k+3)), .int .u8 (byteAt s (k+4)), .int .u8 (byteAt s (k+5)), .int .u8 (byteAt s (k+6)), .int .u8 (byteAt s (k+7))]) :=
        below_setRow (hb.alloc hb.size _).drew hb.size _
      have hg1 := setRow_heap (wr.alloc (.cells #[.int .u8 0, .int .u8 0, .int .u8 0, .int .u8 0, .int .u8 0, .int .u8 0, .int .u8 0, .int .u8 0] 48)).drew wr.heap.size _ #[.int .u8 (byteAt s k), .int .u8 (byteAt s (k+1)), .int .u8 (byteAt s (k+2)), .int .u8 (byteAt s (k+3)), .int .u8 (byteAt s (k+4)), .int .u8 (byteAt s (k+5)), .int .u8 (byteAt s (k+6)), .int .u8 (byteAt s (k+7))] 48 (0,0) (heap_alloc_new wr _)
      generalize World.setRow _ _ _ = W1 at *
      have hd0 := byteAt_bd s k
      have hd1 := byteAt_bd s (k+1)
      have hd2 := byteAt_bd s (k+2)
      have hd3 := byteAt_bd s (k+3)
      have hd4 := byteAt_bd s (k+4)
      have hd5 := byteAt_bd s (k+5)
      have hd6 := byteAt_bd s (k+6)
      have hd7 := byteAt_bd s (k+7)
      unfold round8 at HS
      generalize byteAt s k = b0 at *
      generalize byteAt s (k+1) = b1 at *
      generalize byteAt s (k+2) = b2 at *
      generalize byteAt s (k+3) = b3 at *
      generalize byteAt s (k+4) = b4 at *
      generalize byteAt s (k+5) = b5 at *
      generalize byteAt s (k+6) = b6 at *
      generalize byteAt s (k+7) = b7 at *
      obtain ⟨d0, c0⟩ := hd0
      obtain ⟨d1, c1⟩ := hd1
      obtain ⟨d2, c2⟩ := hd2
      obtain ⟨d3, c3⟩ := hd3
      obtain ⟨d4, c4⟩ := hd4
      obtain ⟨d5, c5⟩ := hd5
      obtain ⟨d6, c6⟩ := hd6
      obtain ⟨d7, c7⟩ := hd7
      have i0 : ∀ w, (Instr.index 48 (.agg #[.int .u8 b0, .int .u8 b1, .int .u8 b2, .int .u8 b3, .int .u8 b4, .int .u8 b5, .int .u8 b6, .int .u8 b7]) (.int .i64 0)).run Try.prog w = .ok (.int .u8 b0) w := fun _ => by kernel_rfl
      have i1 : ∀ w, (Instr.index 48 (.agg #[.int .u8 b0, .int .u8 b1, .int .u8 b2, .int .u8 b3, .int .u8 b4, .int .u8 b5, .int .u8 b6, .int .u8 b7]) (.int .i64 1)).run Try.prog w = .ok (.int .u8 b1) w := fun _ => by kernel_rfl
      have i2 : ∀ w, (Instr.index 48 (.agg #[.int .u8 b0, .int .u8 b1, .int .u8 b2, .int .u8 b3, .int .u8 b4, .int .u8 b5, .int .u8 b6, .int .u8 b7]) (.int .i64 2)).run Try.prog w = .ok (.int .u8 b2) w := fun _ => by kernel_rfl
      have i3 : ∀ w, (Instr.index 48 (.agg #[.int .u8 b0, .int .u8 b1, .int .u8 b2, .int .u8 b3, .int .u8 b4, .int .u8 b5, .int .u8 b6, .int .u8 b7]) (.int .i64 3)).run Try.prog w = .ok (.int .u8 b3) w := fun _ => by kernel_rfl
      have i4 : ∀ w, (Instr.index 48 (.agg #[.int .u8 b0, .int .u8 b1, .int .u8 b2, .int .u8 b3, .int .u8 b4, .int .u8 b5, .int .u8 b6, .int .u8 b7]) (.int .i64 4)).run Try.prog w = .ok (.int .u8 b4) w := fun _ => by kernel_rfl
      have i5 : ∀ w, (Instr.index 48 (.agg #[.int .u8 b0, .int .u8 b1, .int .u8 b2, .int .u8 b3, .int .u8 b4, .int .u8 b5, .int .u8 b6, .int .u8 b7]) (.int .i64 5)).run Try.prog w = .ok (.int .u8 b5) w := fun _ => by kernel_rfl
      have i6 : ∀ w, (Instr.index 48 (.agg #[.int .u8 b0, .int .u8 b1, .int .u8 b2, .int .u8 b3, .int .u8 b4, .int .u8 b5, .int .u8 b6, .int .u8 b7]) (.int .i64 6)).run Try.prog w = .ok (.int .u8 b6) w := fun _ => by kernel_rfl
      have i7 : ∀ w, (Instr.index 48 (.agg #[.int .u8 b0, .int .u8 b1, .int .u8 b2, .int .u8 b3, .int .u8 b4, .int .u8 b5, .int .u8 b6, .int .u8 b7]) (.int .i64 7)).run Try.prog w = .ok (.int .u8 b7) w := fun _ => by kernel_rfl
      go_wp2_with (refine wpList_load_row rfl 48 _ rfl wr.heap.size rfl 48 _ (0,0) _ hg1 Try.underlying48 rfl (by kernel_rfl) ?_)
      clear hg1
      refine wp_loop_rounds 9 ?_
      iterate 9 (rw [rounds_succ]; go_wp2)
      go_roundw
      case rel => exact ⟨r + 1, by have := Hk.out; omega, by have := Hk.out; simp; omega, by rw [HS.out]; rfl, hb1⟩
      case measure => simp [intOf]; omega
    · go_wp2
      go_ret
      have hrr : (s.size + 7) / 8 = r := by have := Hk.out; omega
      refine ⟨?_, hb⟩
      unfold hashOf
      rw [hrr, Hn.out]; rfl
end Go.Proofs.Ytifbilmeecndgaa
