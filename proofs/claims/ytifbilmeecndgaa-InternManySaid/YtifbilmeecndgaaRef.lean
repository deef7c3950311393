/-
  spinnakerref13's table: its methods.
-/
import Derived.Test.YtifbilmeecndgaaOk
namespace Go.Proofs.Ytifbilmeecndgaa
open Go.RowKit

/-- the reference's table behind block rb: its texts L -/
def RefAt (w : World) (rb : Nat) (rv : Value) (L : List ByteArray) : Prop :=
  w.heap[rb]? = some (.cells #[rv] 29 (0, 0)) ∧ w.ownsRow 0 9 1 rv L.length (L.map Value.string) ∧ rv.ownBlock ≠ some rb ∧ L.length ≤ 100000
def RFoot (rb : Nat) (rv : Value) (k : Nat) : Prop := k = rb ∨ rv.ownBlock = some k

theorem RefAt.kept {F : Nat → Prop} {w w' : World} {rb : Nat} {rv : Value} {L : List ByteArray} (h : RefAt w rb rv L) (hf : Frm F w w') (hF : ∀ k, RFoot rb rv k → ¬ F k) : RefAt w' rb rv L :=
  ⟨hf.heap h.1 (hF _ (.inl rfl)), ownsRow_frm h.2.1 hf (fun _ hk => hF _ (.inr hk)), h.2.2⟩
theorem RefAt.below {w w' : World} {rb : Nat} {rv : Value} {L : List ByteArray} (h : RefAt w rb rv L) (hb : Below w.heap.size w w') : RefAt w' rb rv L :=
  h.kept (bfrm hb (fun _ => False)) (fun _ _ => id)
theorem RefAt.lt {w : World} {rb : Nat} {rv : Value} {L : List ByteArray} (h : RefAt w rb rv L) : ∀ k, RFoot rb rv k → k < w.heap.size := by
  rintro k (rfl | hk)
  · exact (Array.getElem?_eq_some_iff.1 h.1).1
  · exact (h.2.1.lt k hk).2

theorem rput_facts {w w2 : World} {rb : Nat} {rv : Value} {o : Obj} (h : w.heap[rb]? = some (.cells #[rv] 29 (0, 0))) (hne : rv.ownBlock ≠ some rb) (hg : (w.alloc o).grownBy w2 rv.ownBlock) :
    w2.cell? ⟨rb, 0, none⟩ = some rv ∧ w2.frozen? ⟨rb, 0, none⟩ = false ∧ Frm (fun k => rv.ownBlock = some k) w w2 ∧ w2.heap[rb]? = some (.cells #[rv] 29 (0, 0)) := by
  have f : Frm (fun k => rv.ownBlock = some k) w w2 := ((Frm.refl _ w).alloc o).trans (grownBy_frm hg (fun k hk => hk))
  have h2 := f.heap h hne
  exact ⟨cell_of_block h2 0 _ rfl, free_of_block h2 0, f, h2⟩

section
variable {w : World} {rb : Nat} {rv : Value} {L : List ByteArray} (h : RefAt w rb rv L)
include h

set_option maxHeartbeats 1000000 in
theorem rget_ok (s : ByteArray) :
    Calls Try.prog 13 #[.pointer (some ⟨rb, 0, none⟩), .string s] w fun e w' => e = .returned (.tuple #[.int .i64 (getN s L : Nat), .bool (isIn s L)]) ∧ w = w' := by
  obtain ⟨h1, hown, hne, hfew⟩ := h
  obtain ⟨a, c, hv⟩ := tv_len hown
  have c0 : w.cell? ⟨rb, 0, none⟩ = some (.slice a L.length c) := by rw [← hv]; exact cell_of_block h1 0 _ rfl
  have HO := Lib.hid (And.intro hown hv)
  clear h1 hown hv hne
  have hid := idx_le s L
  have hfirst := idx_first s L
  have HI := Lib.hid hfirst
  clear hfirst
  go_enter Try.func13, Try.ntmps13
  go_wp2
  go_loopg [6] L.length (fun fu i wr => ∃ k : Nat, k + fu = L.length ∧ i = .int .i64 k ∧ k ≤ idx s L ∧ w = wr)
  case atStart => exact ⟨0, by omega, rfl, by omega, rfl⟩
  case round =>
    obtain ⟨k, hk, rfl, hki, rfl⟩ := hrel
    by_cases hlt : k < L.length
    · obtain ⟨g, cap, hge, _, hcell⟩ := ownsRow_text HO.out.1 k hlt
      have hh := HO.out.2
      rw [hge] at hh
      cases hh
      have hlt' : (k : Int) < (L.length : Int) := by omega
      by_cases he : L.getD k ByteArray.empty = s
      · have hik : idx s L = k := by
          apply Classical.byContradiction; intro hn
          exact HI.out k (by omega) he
        rw [he] at hcell
        have HK := Lib.hid hik
        clear hik he hki hid
        have hbt : (s.toList == s.toList) = true := by simp
        go_wp2
        go_ret2
        unfold getN isIn
        rw [HK.out, if_pos hlt, decide_eq_true hlt]
        exact ⟨rfl, rfl⟩
      · have hik : k + 1 ≤ idx s L := by
          apply Classical.byContradiction; intro hn
          have e : idx s L = k := by omega
          have := idx_get s L (by omega)
          rw [e] at this; exact he this
        have hbf := str_ne he
        generalize L.getD k ByteArray.empty = x at *
        go_wp2
        go_roundg (gk - 1)
        case measure => omega
        case rel => exact ⟨k + 1, by omega, by simp, hik, rfl⟩
    · have e1 : idx s L = L.length := by omega
      have E := Lib.hid e1
      clear e1
      go_wp2
      go_ret2
      unfold getN isIn
      rw [E.out, if_neg (by omega), decide_eq_false (by omega)]
      exact ⟨rfl, rfl⟩

set_option maxHeartbeats 1000000 in
theorem rslots_ok : Calls Try.prog 16 #[.pointer (some ⟨rb, 0, none⟩)] w fun e w' => e = .returned (.int .i64 (Tab.slots L.length : Nat)) ∧ w = w' := by
  obtain ⟨h1, hown, hne, hfew⟩ := h
  obtain ⟨a, c, hv⟩ := tv_len hown
  have c0 : w.cell? ⟨rb, 0, none⟩ = some (.slice a L.length c) := by rw [← hv]; exact cell_of_block h1 0 _ rfl
  clear h1 hown hv hne
  obtain ⟨J, j1, j2, j3, j4⟩ := slots_two L.length hfew
  generalize L.length = m at *
  have up : ∀ x : Nat, x ≤ 15 → (2 : Nat) ^ x ≤ 32768 := fun x h => Nat.pow_le_pow_right (n := 2) (by omega) h
  have HU := Lib.hid up
  have HJ := Lib.hid (And.intro j2 (And.intro j3 j4))
  clear up j2 j3 j4
  go_enter Try.func16, Try.ntmps16
  go_wp2
  go_loopg [3] J (fun fu n wr => ∃ j : Nat, j + fu = J ∧ n = .int .i64 ((16 * 2 ^ j : Nat) : Int) ∧ w = wr)
  case atStart => exact ⟨0, by omega, rfl, rfl⟩
  case round =>
    obtain ⟨j, hj, rfl, rfl⟩ := hrel
    obtain ⟨q2, q3, q4⟩ := HJ.out
    have hp := HU.out j (by omega)
    have hps : 16 * 2 ^ (j + 1) = 2 * (16 * 2 ^ j) := by rw [Nat.pow_succ]; omega
    by_cases hlt : 16 * 2 ^ j < 2 * m
    · have hjJ : j < J := by
        apply Classical.byContradiction; intro hn
        obtain rfl : j = J := by omega
        omega
      have HP := Lib.hid hps
      clear hps q2 q3 q4
      generalize 16 * 2 ^ j = N at *
      go_wp2
      go_roundg (gk - 1)
      case measure => omega
      case rel => exact ⟨j + 1, by omega, by rw [HP.out]; simp, rfl⟩
    · have hjJ : j = J := by
        apply Classical.byContradiction; intro hn
        have : (2 : Nat) ^ j ≤ 2 ^ (J - 1) := Nat.pow_le_pow_right (by omega) (by omega)
        rcases q4 with h0 | h0 <;> omega
      have hS : Tab.slots m = 16 * 2 ^ j := by rw [hjJ]; exact q2
      have HS := Lib.hid hS
      clear q2 q3 q4 hps hjJ hj hS
      generalize 16 * 2 ^ j = N at *
      go_wp2
      go_ret
      exact ⟨by rw [HS.out]; rfl, rfl⟩

set_option maxHeartbeats 1000000 in
theorem rat_ok (i : Int) : Calls Try.prog 19 #[.pointer (some ⟨rb, 0, none⟩), .int .i64 i] w fun e w' => e = .returned (.tuple #[.string (atS L i), .bool (atB L i)]) ∧ w = w' := by
  obtain ⟨h1, hown, hne, hfew⟩ := h
  obtain ⟨a, c, hv⟩ := tv_len hown
  have c0 : w.cell? ⟨rb, 0, none⟩ = some (.slice a L.length c) := by rw [← hv]; exact cell_of_block h1 0 _ rfl
  by_cases h0 : i < 0
  · have e1 : atS L i = ByteArray.empty := by unfold atS; rw [if_neg (by omega)]
    have e2 : atB L i = false := by unfold atB; rw [decide_eq_false (by omega)]
    rw [e1, e2]
    clear e1 e2 hown hv hne h1
    have hd : decide ((i : Int) < 0) = true := by simpa using h0
    go_enter Try.func19, Try.ntmps19
    go_wp2
    go_ret2
    exact ⟨rfl, rfl⟩
  · obtain ⟨k, rfl⟩ := Int.eq_ofNat_of_zero_le (by omega : 0 ≤ i)
    have hd : decide ((k : Int) < 0) = false := by simp
    by_cases hk : k < L.length
    · obtain ⟨g, cap, hge, _, hcell⟩ := ownsRow_text hown k hk
      rw [hge] at hv
      cases hv
      have e1 : atS L k = L.getD k ByteArray.empty := by unfold atS; rw [if_pos (by omega), Int.toNat_natCast]
      have e2 : atB L k = true := by unfold atB; rw [decide_eq_true (by omega)]
      rw [e1, e2]
      clear e1 e2 hown hge hne h1 h0
      have hd3 : decide (L.length ≤ k) = false := by simp; omega
      generalize L.getD k ByteArray.empty = x at *
      go_enter Try.func19, Try.ntmps19
      go_wp2
      go_ret2
      exact ⟨rfl, rfl⟩
    · have e1 : atS L k = ByteArray.empty := by unfold atS; rw [if_neg (by omega)]
      have e2 : atB L k = false := by unfold atB; rw [decide_eq_false (by omega)]
      rw [e1, e2]
      clear e1 e2 hown hv hne h1 h0
      have hd3 : decide (L.length ≤ k) = true := by simp; omega
      go_enter Try.func19, Try.ntmps19
      go_wp2
      go_ret2
      exact ⟨rfl, rfl⟩

/-- Put's answer at the reference's table -/
def RPutOut (w : World) (rb : Nat) (rv : Value) (L : List ByteArray) (s : ByteArray) (e : Ending) (w' : World) : Prop :=
  e = .returned (.tuple #[.int .i64 (idx s L : Nat), .bool (isNew s L)]) ∧ Frm (RFoot rb rv) w w' ∧ ∃ rv', RefAt w' rb rv' (putL L s) ∧ ∀ k, RFoot rb rv' k → RFoot rb rv k ∨ w.heap.size ≤ k

set_option maxHeartbeats 1000000 in
theorem rput_ok (s : ByteArray) (hL : L.length < 99999) : Calls Try.prog 11 #[.pointer (some ⟨rb, 0, none⟩), .string s] w (RPutOut w rb rv L s) := by
  have G := rget_ok h s
  have HG := Lib.hid G
  clear G
  obtain ⟨i0, hi0, hz0, hz1, hz2⟩ := info_parts Try.info9
  obtain ⟨h1, hown, hne, hfew⟩ := h
  have c0 : w.cell? ⟨rb, 0, none⟩ = some rv := cell_of_block h1 0 _ rfl
  have f0 : w.frozen? ⟨rb, 0, none⟩ = false := free_of_block h1 0
  have hlt0 := (Array.getElem?_eq_some_iff.1 h1).1
  by_cases hi : idx s L < L.length
  · have e1 : isIn s L = true := by unfold isIn; rw [decide_eq_true hi]
    have hfin : RPutOut w rb rv L s (.returned (.tuple #[.int .i64 (getN s L : Nat), .bool false])) w := by
      refine ⟨?_, Frm.refl _ _, rv, ?_, fun k hk => .inl hk⟩
      · unfold getN isNew; rw [if_pos hi, decide_eq_false (by omega)]
      · unfold putL; rw [if_pos hi]; exact ⟨h1, hown, hne, hfew⟩
    have HF := Lib.hid hfin
    clear hfin h1 hown
    go_enter Try.func11, Try.ntmps11
    go_wp2_with (first | (go_at_call 13; refine HG.out.mono ?_; rintro e w1 ⟨rfl, rfl⟩))
    go_ret2
    exact HF.out
  · have e1 : isIn s L = false := by unfold isIn; rw [decide_eq_false hi]
    have HO := Lib.hid (And.intro h1 hown)
    clear h1 hown
    go_enter Try.func11, Try.ntmps11
    go_wp2_with (first | (go_at_call 13; refine HG.out.mono ?_; rintro e w1 ⟨rfl, rfl⟩) | (at_builtin; refine wpList_append_lies (w.alloc (.cells #[.string s] 9)) rfl (.tmp 20) (.tmp 22) 22 rfl 0 9 i0 (.string ByteArray.empty) 1 16 Try.underlying22 hi0 hz0 hz1 hz2 rfl (by decide) rv L.length (L.map Value.string) rfl (HO.out.2.alloc _) ⟨w.heap.size, 0, none⟩ 1 1 [.string s] rfl rfl (cell_one_new _ _ _) (by simp [Value.oneCell']) (by omega) (by unfold maxLen; omega) (by omega) (Nat.zero_le _) (w.heap.size + 1) (by simp) ?_; intro g2 cap2 w2 hown2 hgr2 hor2 hlt2; obtain ⟨q0, q1, q2, q3⟩ := rput_facts HO.out.1 hne hgr2; clear hgr2))
    go_ret2
    have he : idx s L = L.length := by have := idx_le s L; omega
    refine ⟨?_, ?_, .slice (some ⟨g2, 0, none⟩) (L.length + 1) cap2, ?_, ?_⟩
    · unfold isNew; rw [he, decide_eq_true (by omega)]; simp
    · exact (q2.mono (fun k _ hk => .inr hk)).setCell (p := ⟨rb, 0, none⟩) (fun _ => .inl rfl) _
    · unfold putL; rw [if_neg hi]
      have a1 : g2 ≠ rb := by rintro rfl; rcases hor2 with e | e; exact hne e; omega
      refine ⟨?_, ?_, by simp [Value.ownBlock, a1], by simp; omega⟩
      · rw [heap_setCell_block q3]; rfl
      · have := ownsRow_frm (F := fun k => k = rb) hown2 ((Frm.refl (fun k => k = rb) w2).setCell (p := ⟨rb, 0, none⟩) (fun _ => rfl) (.slice (some ⟨g2, 0, none⟩) (L.length + 1) cap2)) (fun k hk e => by simp [Value.ownBlock] at hk; omega)
        simpa using this
    · rintro k (rfl | hk)
      · exact .inl (.inl rfl)
      · simp [Value.ownBlock] at hk; subst hk
        exact hor2.imp (fun e => .inr e) (fun e => by omega)
end
end Go.Proofs.Ytifbilmeecndgaa
