/-
  spinnakerlaw18.nodes: the walk.
-/
import Derived.Test.YtnlaonppgebpoaaFairB
namespace Go.Proofs.Ytnlaonppgebpoaa
open Go.RowKit

theorem nodesL_succ (bits k : Nat) : nodesL bits (k + 1) = if bits.testBit k = true then nodesL bits k ++ [(k : Int)] else nodesL bits k := by
  unfold nodesL
  rw [List.range_succ, List.filter_append]
  cases h : bits.testBit k
  · rw [List.filter_cons_of_neg (by rw [h]; simp)]; simp
  · rw [List.filter_cons_of_pos h]; simp
theorem nodesL_len (bits k : Nat) : (nodesL bits k).length ≤ k := by
  unfold nodesL
  rw [List.length_map]
  exact Nat.le_trans (List.length_filter_le _ _) (by simp)
theorem bit_one (b k : Nat) (hb : b ≤ 1000000) : (Go.bits BinOp.and IntKind.i64 ((b : Int) / 2 ^ k) 1 == 1) = b.testBit k := by
  have e : ((b : Int) / 2 ^ k) = ((b / 2 ^ k : Nat) : Int) := by simp
  have hle : b / 2 ^ k ≤ b := Nat.div_le_self _ _
  rw [e, Nat.testBit_eq_decide_div_mod_eq]
  generalize b / 2 ^ k = z at *
  have hz : Go.bits BinOp.and IntKind.i64 (z : Int) 1 = ((z % 2 : Nat) : Int) := by
    have h1 : (BitVec.ofInt 64 (z : Int)).toNat = z := by
      rw [BitVec.ofInt_natCast, BitVec.toNat_ofNat]; exact Nat.mod_eq_of_lt (by omega)
    have h2 : (BitVec.ofInt 64 (1 : Int)).toNat = 1 := rfl
    show IntKind.i64.wrap ((BitVec.ofInt 64 (z : Int) &&& BitVec.ofInt 64 (1 : Int)).toNat : Int) = _
    rw [BitVec.toNat_and, h1, h2, Nat.and_one_is_mod]
    have hr : z % 2 < 2 := Nat.mod_lt _ (by omega)
    generalize z % 2 = y at *
    exact IntWalk.i64_in _ (by omega)
  rw [hz]
  have : z % 2 = 0 ∨ z % 2 = 1 := by omega
  rcases this with h | h <;> rw [h] <;> rfl
set_option maxRecDepth 100000 in
set_option maxHeartbeats 16000000 in
theorem bitnodes_ok (bits n : Nat) (w : World) (hn : n ≤ 60) (hb : bits ≤ 1000000) : Calls Try.prog 65 #[.int .i64 (bits : Nat), .int .i64 (n : Nat)] w (IntsBack w (nodesL bits n)) := by
  obtain ⟨i0, hi0, hz0, hz1, hz2⟩ := info_parts Try.info3
  have NS := Lib.hid (nodesL_succ bits)
  have NL := Lib.hid (nodesL_len bits)
  have HBO := Lib.hid (fun k => bit_one bits k hb)
  have N0 : Hid (nodesL bits 0 = []) := Lib.hid rfl
  generalize nodesL bits = NO at *
  go_enter Try.func65, Try.ntmps65
  go_wp2_with fail
  go_loopg [5, 6] n (fun fu ov c wr => ∃ (k m : Nat), k + fu = n ∧ c = .int .i64 k ∧ Hid (Below w.heap.size w wr) ∧ Hid ((NO k).length = m) ∧ Hid (wr.ownsRow w.heap.size 3 1 ov m ((NO k).map (Value.int .i64))))
  case atStart => exact ⟨0, 0, by omega, rfl, Lib.hid (Below.refl _ _), Lib.hid (by rw [N0.out]; rfl), Lib.hid (by rw [N0.out]; exact World.ownsRow_nil _ _ _ _)⟩
  case round =>
    obtain ⟨k, m, hk, rfl, HB, HM, HO⟩ := hrel
    obtain ⟨oa, oc, rfl⟩ := own_var HO.out
    by_cases hlt : k < n
    · have z1 : (k : Int) < (n : Int) := by omega
      have hml : m ≤ 60 := by have := NL.out k; rw [HM.out] at this; omega
      have hs := NS.out k
      have zb := HBO.out k
      cases ht : bits.testBit k
      · rw [ht] at hs zb
        have E : Hid (NO (k + 1) = NO k) := Lib.hid hs
        clear hs ht
        go_wp2_with fail
        go_roundg (n - (k + 1))
        case measure => omega
        case rel => exact ⟨k + 1, m, by omega, by simp, HB, Lib.hid (by rw [E.out]; exact HM.out), Lib.hid (by rw [E.out]; exact HO.out)⟩
      · rw [ht] at hs zb
        have E : Hid (NO (k + 1) = NO k ++ [(k : Int)]) := Lib.hid hs
        clear hs ht
        go_wp2_with (at_builtin; refine wpList_append_lies (wr.alloc (.cells #[.int .i64 k] 3)) rfl (.tmp 17) (.tmp 19) 24 rfl w.heap.size 3 i0 (.int .i64 0) 1 8 Try.underlying24 hi0 hz0 hz1 hz2 rfl (by decide) (.slice oa m oc) m _ rfl (HO.out.alloc _) ⟨wr.heap.size, 0, none⟩ 1 1 [.int .i64 k] rfl rfl (World.news_of_block (heap_alloc_new _ _)) (by simp [Value.oneCell']) (by omega) (by unfold maxLen; omega) (by omega) (by have := HB.out.size; simp; omega) (wr.heap.size + 1) (by simp) ?_; intro g3 cap3 w3 hown3 hgr3 hor3 hlt3; have HO3 := Lib.hid hown3; have HB4 := Lib.hid (Below.own HB.out HO.out hgr3); clear hown3 hgr3 hor3)
        go_roundg (n - (k + 1))
        case measure => omega
        case rel => exact ⟨k + 1, m + 1, by omega, by simp, HB4, Lib.hid (by rw [E.out, List.length_append, HM.out]; rfl), Lib.hid (by rw [E.out, List.map_append]; exact HO3.out)⟩
    · obtain rfl : k = n := by omega
      have HI : Hid (IntsAt wr (.slice oa m oc) (NO k)) := Lib.hid (own_ints (by rw [HM.out]; exact HO.out))
      go_wp2_with fail
      go_ret
      exact ⟨_, rfl, HI.out, HB.out⟩
end Go.Proofs.Ytnlaonppgebpoaa
