/-
  (*intern.Table).grow, Put.
-/
import Derived.Test.YtifbilmeecndgaaTab
import Derived.Deep.RegionWith
namespace Go.Proofs.Ytifbilmeecndgaa
open Go.RowKit
theorem Try.info3 : (Try.prog.info? 3).map (fun i => (i.zero, i.size, i.bytes)) = some (some (.int .i64 0), 1, 8) := by kernel_rfl

set_option maxHeartbeats 1000000 in
theorem grow_no (w : World) (tb sb : Nat) (tv : Value) (L : List ByteArray) (S : List Nat) (h : TabAt w tb sb tv L S) (hL : L.length ≤ 100000) (_hS : S.length ≤ 1099511627776) (hroom : 2 * L.length ≤ S.length) :
    Calls Try.prog 22 #[.pointer (some ⟨tb, 0, none⟩)] w fun e w' => e = .returned (.tuple #[]) ∧ Below w.heap.size w w' := by
  obtain ⟨a, c, rfl⟩ := tv_len h.own
  have c0 : w.cell? ⟨tb, 0, none⟩ = some (.slice a L.length c) := cell_of_block h.head 0 _ rfl
  have c1 : w.cell? ⟨tb, 1, none⟩ = some (.slice (some ⟨sb, 0, none⟩) S.length S.length) := cell_of_block h.head 1 _ rfl
  clear h
  generalize S.length = N at *
  generalize L.length = l at *
  have hd : decide (N < 2 * l) = false := by simp; omega
  go_enter Try.func22, Try.ntmps22
  go_wp2
  refine wp_loop_rounds 1 ?_
  rw [rounds_succ]
  go_wp2
  refine bodyPost_ret (results_none rfl _ _ _) rfl ?_
  exact ⟨rfl, Below.refl _ _⟩

theorem slotCells_set (S : List Nat) (p v : Nat) : (slotCells S).setIfInBounds p (.int .i64 (v : Nat)) = slotCells (S.set p v) := by
  unfold slotCells; simp [List.map_set]
theorem TabAt.set {w : World} {tb sb : Nat} {tv : Value} {L : List ByteArray} {S : List Nat} (h : TabAt w tb sb tv L S) (p v : Nat) :
    TabAt (w.setCell ⟨sb, p, none⟩ (.int .i64 (v : Nat))) tb sb tv L (S.set p v) := by
  have hf : Frm (fun k => k = sb) w (w.setCell ⟨sb, p, none⟩ (.int .i64 (v : Nat))) := (Frm.refl (fun k => k = sb) w).setCell (p := ⟨sb, p, none⟩) (fun _ => rfl) _
  refine ⟨?_, ?_, ownsRow_frm h.own hf (fun k hk e => h.nes (by rw [hk, e])), h.ne, h.net, h.nes⟩
  · rw [List.length_set]; exact hf.heap h.head (fun e => h.ne e.symm)
  · rw [heap_setCell_block h.slots, slotCells_set]
theorem grow_below {wr w' : World} (h4 : Below wr.drew.heap.size wr.drew w') : Below wr.heap.size wr w' := ⟨h4.os, h4.tape, h4.output, h4.size, h4.block⟩
set_option maxHeartbeats 2000000 in
theorem grow_yes (w : World) (tb sb : Nat) (tv : Value) (L : List ByteArray) (S : List Nat) (h : TabAt w tb sb tv L S) (hL : L.length ≤ 100000) (m : Nat) (hm : m + 1 ≤ 40) (hS : S.length = 2 ^ m) 
    (h1 : S.length < 2 * L.length) (h2 : L.length < S.length) (hn : L.Nodup) (hl : ∀ s ∈ L, s.size ≤ 200) :
    Calls Try.prog 22 #[.pointer (some ⟨tb, 0, none⟩)] w fun e w' => e = .returned (.tuple #[]) ∧ ∃ S' : List Nat, S'.length = 2 * S.length ∧ ∃ sb', w.heap.size ≤ sb' ∧ TabAt w' tb sb' tv L S' ∧ Tab.Fine hashN L S' L.length ∧ Frm (fun k => k = tb) w w' := by
  have hlt := h.lt tb (.inl rfl)
  have c0' : ∃ g cap, tv = .slice (some ⟨g, 0, none⟩) L.length cap ∧ L.length ≤ cap := by
    obtain ⟨g, cap, e, hc, _⟩ := ownsRow_text h.own 0 (by omega)
    exact ⟨g, cap, e, hc⟩
  obtain ⟨g, cap, rfl, hcap⟩ := c0'
  have c0 : w.cell? ⟨tb, 0, none⟩ = some (.slice (some ⟨g, 0, none⟩) L.length cap) := cell_of_block h.head 0 _ rfl
  have c1 : w.cell? ⟨tb, 1, none⟩ = some (.slice (some ⟨sb, 0, none⟩) S.length S.length) := cell_of_block h.head 1 _ rfl
  have f1 : w.frozen? ⟨tb, 1, none⟩ = false := free_of_block h.head 1
  have hp40 : 2 ^ (m + 1) ≤ 1099511627776 := Nat.pow_le_pow_right (by omega) hm
  have HS := Lib.hid hS
  have HP := Lib.hid (show 2 * S.length = 2 ^ (m + 1) by rw [hS, Nat.pow_succ]; omega)
  have hSb : 2 * S.length ≤ 1099511627776 := by rw [HP.out]; exact hp40
  clear hS hp40
  have H := Lib.hid h
  clear h
  generalize hN : S.length = N at *
  have HN := Lib.hid hN
  clear hN
  generalize hll : L.length = l at *
  have HL := Lib.hid hll
  clear hll
  have hd : decide (N < 2 * l) = true := by simp; omega
  have hd2 : decide (2 * N < 2 * l) = false := by simp; omega
  have hd3 : ((N : Int) * 2 == (N : Int)) = false := by rw [beq_eq_false_iff_ne]; omega
  go_enter Try.func22, Try.ntmps22
  go_wp2
  refine wp_loop_rounds 2 ?_
  rw [rounds_succ]
  go_wp2
  rw [rounds_succ]
  clear hd hd2 hd3
  go_wp2_with (at_make; refine wpList_make_one w rfl (.tmp 28) (.tmp 28) 41 rfl 3 (.int .i64 0) rfl 8 Try.underlying41 Try.info3 .i64 .i64 ((N : Int) * 2) ((N : Int) * 2) (2 * N) rfl rfl (by omega) (by omega) (by omega) (by unfold maxLen; omega) ?_; intro w1 hh1 hb1 hlt1; have d0 := bkeep hb1 c0; have d1 := bkeep hb1 c1; have df := (hb1.frozen (p := ⟨tb, 1, none⟩) hlt).trans f1; clear c0 c1 f1)
  -- the table with its new slots, all free
  have hT : TabAt (w1.setCell ⟨tb, 1, none⟩ (.slice (some ⟨w.heap.size, 0, none⟩) (2 * N) (2 * N))) tb w.heap.size (.slice (some ⟨g, 0, none⟩) l cap) L (List.replicate (2 * N) 0) := by
    have h0 := H.out
    have hh : w1.heap[tb]? = _ := bheap hb1 h0.head
    have hh' := heap_setCell_block hh 1 (.slice (some ⟨w.heap.size, 0, none⟩) (2 * N) (2 * N))
    refine ⟨?_, ?_, ?_, by omega, h0.net, ?_⟩
    · rw [hh', List.length_replicate]; rfl
    · rw [Below.heap_setCell _ _ _ _ (by show w.heap.size ≠ tb; omega), slotCells_zero]; exact hh1
    · have hb2 : Frm (fun k => k = tb) w (w1.setCell ⟨tb, 1, none⟩ (.slice (some ⟨w.heap.size, 0, none⟩) (2 * N) (2 * N))) := (bfrm hb1 (fun k => k = tb)).setCell (p := ⟨tb, 1, none⟩) (fun _ => rfl) _
      exact ownsRow_frm h0.own hb2 (fun k hk e => h0.net (by rw [hk, e]))
    · have := h0.own.lt g rfl
      simp [Value.ownBlock]; omega
  have hF : Frm (fun k => k = tb) w (w1.setCell ⟨tb, 1, none⟩ (.slice (some ⟨w.heap.size, 0, none⟩) (2 * N) (2 * N))) := (bfrm hb1 (fun k => k = tb)).setCell (p := ⟨tb, 1, none⟩) (fun _ => rfl) _
  have hsz : w.heap.size < (w1.setCell ⟨tb, 1, none⟩ (.slice (some ⟨w.heap.size, 0, none⟩) (2 * N) (2 * N))).heap.size := by simpa using hlt1
  have HT := Lib.hid hT
  clear hT hh1 d0 d1 df hb1 hlt1
  generalize hB : w.heap.size = B at *
  have HB := Lib.hid hB
  clear hB
  generalize World.setCell _ _ _ = w2 at *
  go_loopg [3, 4, 37] l (fun f _ _ ct wr => ∃ (k : Nat) (S' : List Nat), k + f = l ∧ ct = .int .i64 k ∧ S'.length = 2 * N ∧ TabAt wr tb B (.slice (some ⟨g, 0, none⟩) l cap) L S' ∧ Tab.Fine hashN L S' k ∧ Frm (fun k => k = tb) w wr)
  case atStart => exact ⟨0, _, by omega, rfl, by simp, HT.out, Tab.Fine.none hashN L (2 * N) (by omega), hF⟩
  case round =>
    obtain ⟨k, S', hk, rfl, hSl, hT, hFi, hFr⟩ := hrel
    by_cases hkl : k < l
    · have hkL : k < L.length := by rw [HL.out]; exact hkl
      have hsx : (L.getD k ByteArray.empty).size ≤ 200 := hl _ (by simp [List.getD, hkL])
      have hput := hFi.put hkL (by omega) hn
      have hsp := hFi.spot_lt (L.getD k ByteArray.empty)
      have F : ∀ w1, Below wr.heap.size wr w1 → Calls Try.prog 21 #[.pointer (some ⟨tb, 0, none⟩), .string (L.getD k ByteArray.empty)] w1 fun e w' => e = .returned (.int .i64 (Tab.spot hashN L S' (L.getD k ByteArray.empty) : Nat)) ∧ Below w1.heap.size w1 w' := fun w1 hb => by
        have h' := hT.below hb
        have hL' := HL.out
        subst hL'
        exact find_any 0 tb B _ L S' k (m + 1) _ w1 hsx (by rw [hSl]; exact HP.out) hm hL hFi h'.head h'.slots h'.own
      have HF := Lib.hid F
      have hsa := (ownsRow_text (L := L) (tv := .slice (some ⟨g, 0, none⟩) l cap) (by have := hT.own; exact this) k hkL)
      obtain ⟨g', cap', hge, _, hcell⟩ := hsa
      cases hge
      have c1 : wr.cell? ⟨tb, 1, none⟩ = some (.slice (some ⟨B, 0, none⟩) (2 * N) (2 * N)) := by have := cell_of_block hT.head 1 _ rfl; rw [hSl] at this; exact this
      generalize hp : Tab.spot hashN L S' (L.getD k ByteArray.empty) = p at *
      have c2 : wr.cell? ⟨B, p, none⟩ = some (.int .i64 ((S'.getD p 0 : Nat) : Int)) := cell_of_block hT.slots _ _ (slotCells_get S' _ hsp)
      have f2 : wr.frozen? ⟨B, p, none⟩ = false := free_of_block hT.slots p
      have hbw := wr.block_lt_of_cell? _ c2
      have hbt := wr.block_lt_of_cell? _ c1
      generalize hv : S'.getD p 0 = v at *
      generalize hx : L.getD k ByteArray.empty = x at *
      have H5 := Lib.hid (And.intro hSl (And.intro hT (And.intro hFi (And.intro hFr (And.intro hput (And.intro hp (And.intro hv hx)))))))
      have hp2 : p < 2 * N := by omega
      have hp3 : (p : Int) < ((2 * N : Nat) : Int) := by omega
      clear hSl hT hFi hFr hput hp hv hx hsp F hkL hsx
      go_wp2_with fail
      go_region_with (first | (go_at_call 21; refine (HF.out _ ?_).mono ?_; (first | exact (Below.refl _ _).drew); rintro e w' ⟨rfl, hb'⟩; have hb2 := grow_below hb'; have e1 := bkeep hb2 c1; have e2 := bkeep hb2 c2; have e3 := (hb2.frozen (p := ⟨B, p, none⟩) hbw).trans f2))
      all_goals
        obtain ⟨hSl, hT, hFi, hFr, hput, hp, hv, hx⟩ := H5.out
        have hT' := (hT.below hb2).set p (k + 1)
        have hFr' : Frm (fun k => k = tb) w (w'.setCell ⟨B, p, none⟩ (.int .i64 (((k + 1 : Nat) : Int)))) := (hFr.trans (bfrm hb2 _)).setCell (p := ⟨B, p, none⟩) (fun hh => by have := HB.out; simp only at hh; omega) _
        have HH := Lib.hid (And.intro hSl (And.intro hT' (And.intro hFr' hput)))
        clear hSl hT hFi hFr hput hp hv hx hT' hFr' e1 e2 e3
        go_wp2
        go_roundg (gk - 1)
        case measure => omega
        case rel => exact ⟨k + 1, _, by omega, by simp, by rw [List.length_set]; exact HH.out.1, HH.out.2.1, HH.out.2.2.2, HH.out.2.2.1⟩
    · go_wp2
      go_end0
      obtain rfl : k = l := by omega
      obtain rfl := HL.out
      exact ⟨rfl, S', by rw [hSl], B, by have := HB.out; omega, hT, hFi, hFr⟩

/-- how many slots: one text more -/
theorem slots_two (m : Nat) (hm : m ≤ 100000) : ∃ j, j ≤ 15 ∧ Tab.slots m = 16 * 2 ^ j ∧ 2 * m ≤ Tab.slots m ∧ (j = 0 ∨ 16 * 2 ^ (j - 1) < 2 * m) := by
  have key : ∀ d j, j + d = 15 → (j = 0 ∨ 16 * 2 ^ (j - 1) < 2 * m) → ∀ f, d < f → ∃ i, i ≤ 15 ∧ Tab.slotsFrom f m (16 * 2 ^ j) = 16 * 2 ^ i ∧ 2 * m ≤ 16 * 2 ^ i ∧ (i = 0 ∨ 16 * 2 ^ (i - 1) < 2 * m) := by
    intro d
    induction d with
    | zero =>
      intro j hj h0 f hf
      obtain rfl : j = 15 := by omega
      match f, hf with
      | f + 1, _ => 
        refine ⟨15, by omega, ?_, by omega, h0⟩
        rw [Tab.slotsFrom, if_neg (by omega)]
    | succ d ih =>
      intro j hj h0 f hf
      match f, hf with
      | f + 1, hf =>
        rw [Tab.slotsFrom]
        by_cases h : 2 * m > 16 * 2 ^ j
        · rw [if_pos h, show 2 * (16 * 2 ^ j) = 16 * 2 ^ (j + 1) by rw [Nat.pow_succ]; omega]
          exact ih (j + 1) (by omega) (.inr (by simpa using h)) f (by omega)
        · rw [if_neg h]
          exact ⟨j, by omega, rfl, by omega, h0⟩
  have := key 15 0 (by omega) (.inl rfl) 64 (by omega)
  obtain ⟨i, h1, h2, h3, h4⟩ := this
  have e : Tab.slots m = 16 * 2 ^ i := h2
  exact ⟨i, h1, e, by rw [e]; exact h3, h4⟩

theorem slots_succ (m : Nat) (hm : m < 100000) : Tab.slots (m + 1) = if Tab.slots m < 2 * (m + 1) then 2 * Tab.slots m else Tab.slots m := by
  obtain ⟨j, a1, a2, a3, a4⟩ := slots_two m (by omega)
  obtain ⟨i, b1, b2, b3, b4⟩ := slots_two (m + 1) (by omega)
  rw [a2] at a3 ⊢
  rw [b2] at b3 ⊢
  have up : ∀ x y : Nat, x ≤ y → (2 : Nat) ^ x ≤ 2 ^ y := fun x y h => Nat.pow_le_pow_right (by omega) h
  have dbl : ∀ x : Nat, 0 < x → (2 : Nat) ^ x = 2 * 2 ^ (x - 1) := fun x h => by
    obtain ⟨y, rfl⟩ : ∃ y, x = y + 1 := ⟨x - 1, by omega⟩
    rw [Nat.pow_succ]; simp; omega
  have p0 : ∀ x : Nat, 0 < (2 : Nat) ^ x := fun x => Nat.two_pow_pos x
  split
  · rename_i h
    have : i = j + 1 := by
      apply Classical.byContradiction; intro hne
      by_cases hlt : i ≤ j
      · have := up i j hlt; omega
      · have h2 := up (j + 1) (i - 1) (by omega)
        rcases b4 with h0 | h0
        · omega
        · have h3 := dbl (j + 1) (by omega); simp at h3
          have := p0 j
          omega
    subst this
    rw [Nat.pow_succ]; omega
  · rename_i h
    have : i = j := by
      apply Classical.byContradiction; intro hne
      by_cases hlt : i < j
      · have := up i (j - 1) (by omega)
        rcases a4 with h0 | h0
        · omega
        · omega
      · have h2 := up j (i - 1) (by omega)
        rcases b4 with h0 | h0
        · omega
        · omega
    rw [this]
end Go.Proofs.Ytifbilmeecndgaa
