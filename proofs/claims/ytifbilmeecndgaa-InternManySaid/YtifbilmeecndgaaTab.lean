/-
  intern.Table: the walks of its methods that write nothing into it.
-/
import Derived.Test.YtifbilmeecndgaaFind
import Derived.Deep.RegionHeld3
namespace Go.Proofs.Ytifbilmeecndgaa
open Go.RowKit

/-- the table that lies behind block tb: its texts L, its slots S -/
structure TabAt (w : World) (tb sb : Nat) (tv : Value) (L : List ByteArray) (S : List Nat) : Prop where
  head : w.heap[tb]? = some (.cells #[tv, .slice (some ⟨sb, 0, none⟩) S.length S.length] 43 (0, 0))
  slots : w.heap[sb]? = some (.cells (slotCells S) 3 (0, 0))
  own : w.ownsRow 0 9 1 tv L.length (L.map Value.string)
  ne : sb ≠ tb
  net : tv.ownBlock ≠ some tb
  nes : tv.ownBlock ≠ some sb

/-- its blocks -/
def Foot (tb sb : Nat) (tv : Value) (k : Nat) : Prop := k = tb ∨ k = sb ∨ tv.ownBlock = some k

theorem ownsRow_frm {F : Nat → Prop} {w w' : World} {base : Nat} {e : TypeId} {size : Nat} {v : Value} {n : Nat} {xs : List Value} (h : w.ownsRow base e size v n xs) (hf : Frm F w w') (hF : ∀ k, v.ownBlock = some k → ¬ F k) : w'.ownsRow base e size v n xs := by
  refine ⟨h.1, ?_⟩
  rcases h.2 with hn | ⟨g, cap, cur, rfl, hb, hg, r⟩
  · exact .inl hn
  · exact .inr ⟨g, cap, cur, rfl, hb, hf.heap hg (hF g rfl), r⟩

theorem TabAt.kept {F : Nat → Prop} {w w' : World} {tb sb : Nat} {tv : Value} {L : List ByteArray} {S : List Nat} (h : TabAt w tb sb tv L S) (hf : Frm F w w') (hF : ∀ k, Foot tb sb tv k → ¬ F k) : TabAt w' tb sb tv L S :=
  ⟨hf.heap h.head (hF _ (.inl rfl)), hf.heap h.slots (hF _ (.inr (.inl rfl))), ownsRow_frm h.own hf (fun _ hk => hF _ (.inr (.inr hk))), h.ne, h.net, h.nes⟩
theorem TabAt.below {w w' : World} {tb sb : Nat} {tv : Value} {L : List ByteArray} {S : List Nat} (h : TabAt w tb sb tv L S) (hb : Below w.heap.size w w') : TabAt w' tb sb tv L S :=
  h.kept (bfrm hb (fun _ => False)) (fun _ _ => id)
theorem TabAt.lt {w : World} {tb sb : Nat} {tv : Value} {L : List ByteArray} {S : List Nat} (h : TabAt w tb sb tv L S) : ∀ k, Foot tb sb tv k → k < w.heap.size := by
  rintro k (rfl | rfl | hk)
  · exact (Array.getElem?_eq_some_iff.1 h.head).1
  · exact (Array.getElem?_eq_some_iff.1 h.slots).1
  · exact (h.own.lt k hk).2

/-- what a right table's plain data are -/
structure Right (L : List ByteArray) (S : List Nat) : Prop where
  pow : ∃ m, m ≤ 40 ∧ S.length = 2 ^ m
  fine : Tab.Fine hashN L S L.length
  nodup : L.Nodup
  len : S.length = Tab.slots L.length
  room : 2 * L.length ≤ S.length
  few : L.length ≤ 100000

theorem tv_len {w : World} {B : Nat} {tv : Value} {L : List ByteArray} (h : w.ownsRow B 9 1 tv L.length (L.map Value.string)) : ∃ a c, tv = .slice a L.length c := by
  rcases h.2 with ⟨rfl, h0⟩ | ⟨g, cap, cur, rfl, _⟩
  · rw [h0]; exact ⟨_, _, rfl⟩
  · exact ⟨_, _, rfl⟩

set_option maxHeartbeats 400000 in
theorem there_nil (w : World) : Calls Try.prog 20 #[.pointer none] w fun e w' => e = .returned (.bool false) ∧ w = w' := by
  go_enter Try.func20, Try.ntmps20
  go_wp2
  go_ret
  exact ⟨rfl, rfl⟩

set_option maxHeartbeats 400000 in
theorem there_zero (w : World) (b : Nat) (h1 : w.cell? ⟨b, 1, none⟩ = some (.slice none 0 0)) : Calls Try.prog 20 #[.pointer (some ⟨b, 0, none⟩)] w fun e w' => e = .returned (.bool false) ∧ w = w' := by
  go_enter Try.func20, Try.ntmps20
  go_wp2
  go_ret
  exact ⟨rfl, rfl⟩

set_option maxHeartbeats 400000 in
theorem there_some (w : World) (b : Nat) (sa : Option Addr) (n c : Nat) (h1 : w.cell? ⟨b, 1, none⟩ = some (.slice sa n c)) (hn : 0 < n) :
    Calls Try.prog 20 #[.pointer (some ⟨b, 0, none⟩)] w fun e w' => e = .returned (.bool true) ∧ w = w' := by
  go_enter Try.func20, Try.ntmps20
  go_wp2
  go_ret
  exact ⟨rfl, rfl⟩

section
variable (w : World) (tb sb : Nat) (tv : Value) (L : List ByteArray) (S : List Nat) (h : TabAt w tb sb tv L S) (hr : Right L S)
include h hr

theorem there_tab : Calls Try.prog 20 #[.pointer (some ⟨tb, 0, none⟩)] w fun e w' => e = .returned (.bool true) ∧ w = w' :=
  there_some w tb _ _ _ (cell_of_block h.head 1 _ rfl) hr.fine.pos

set_option maxHeartbeats 400000 in
theorem len_tab : Calls Try.prog 14 #[.pointer (some ⟨tb, 0, none⟩)] w fun e w' => e = .returned (.int .i64 (L.length : Nat)) ∧ w = w' := by
  obtain ⟨a, c, rfl⟩ := tv_len h.own
  have c0 : w.cell? ⟨tb, 0, none⟩ = some (.slice a L.length c) := cell_of_block h.head 0 _ rfl
  go_enter Try.func14, Try.ntmps14
  go_wp2_with (go_at_call 20; refine (there_tab w tb sb _ L S h hr).mono ?_; rintro e w1 ⟨rfl, rfl⟩)
  go_ret
  exact ⟨rfl, rfl⟩

set_option maxHeartbeats 400000 in
theorem slots_tab : Calls Try.prog 15 #[.pointer (some ⟨tb, 0, none⟩)] w fun e w' => e = .returned (.int .i64 (S.length : Nat)) ∧ w = w' := by
  have c0 : w.cell? ⟨tb, 1, none⟩ = some (.slice (some ⟨sb, 0, none⟩) S.length S.length) := cell_of_block h.head 1 _ rfl
  go_enter Try.func15, Try.ntmps15
  go_wp2_with (go_at_call 20; refine (there_tab w tb sb _ L S h hr).mono ?_; rintro e w1 ⟨rfl, rfl⟩)
  go_ret
  exact ⟨rfl, rfl⟩

set_option maxHeartbeats 400000 in
theorem at_in (i : Nat) (hi : i < L.length) : Calls Try.prog 18 #[.pointer (some ⟨tb, 0, none⟩), .int .i64 (i : Nat)] w fun e w' => e = .returned (.tuple #[.string (L.getD i ByteArray.empty), .bool true]) ∧ w = w' := by
  obtain ⟨g, cap, rfl, hcap, ht⟩ := ownsRow_text h.own i hi
  have c0 : w.cell? ⟨tb, 0, none⟩ = some (.slice (some ⟨g, 0, none⟩) L.length cap) := cell_of_block h.head 0 _ rfl
  have hf := hr.few
  have hd : decide ((i : Int) < 0) = false := by simp
  have hd2 : decide ((L.length : Int) ≤ i) = false := by simp; omega
  have hd3 : decide (L.length ≤ i) = false := by simp; omega
  have T := there_tab w tb sb _ L S h hr
  have HT := Lib.hid T
  clear T h hr
  generalize L.getD i ByteArray.empty = x at *
  go_enter Try.func18, Try.ntmps18
  go_wp2_with (go_at_call 20; refine HT.out.mono ?_; rintro e w1 ⟨rfl, rfl⟩)
  go_ret2
  exact ⟨rfl, rfl⟩

set_option maxHeartbeats 400000 in
theorem at_out (i : Int) (hi : i < 0 ∨ L.length ≤ i) : Calls Try.prog 18 #[.pointer (some ⟨tb, 0, none⟩), .int .i64 i] w fun e w' => e = .returned (.tuple #[.string ByteArray.empty, .bool false]) ∧ w = w' := by
  obtain ⟨a, c, rfl⟩ := tv_len h.own
  have c0 : w.cell? ⟨tb, 0, none⟩ = some (.slice a L.length c) := cell_of_block h.head 0 _ rfl
  have hf := hr.few
  have T := there_tab w tb sb _ L S h hr
  have HT := Lib.hid T
  clear T h hr
  by_cases h0 : i < 0
  · have hd : decide ((i : Int) < 0) = true := by simpa using h0
    go_enter Try.func18, Try.ntmps18
    go_wp2_with (go_at_call 20; refine HT.out.mono ?_; rintro e w1 ⟨rfl, rfl⟩)
    go_ret2
    exact ⟨rfl, rfl⟩
  · obtain ⟨k, rfl⟩ := Int.eq_ofNat_of_zero_le (by omega : 0 ≤ i)
    have hk : L.length ≤ k := by omega
    clear hi
    have hd : decide ((k : Int) < 0) = false := by simp
    have hd3 : decide (L.length ≤ k) = true := by simpa using hk
    go_enter Try.func18, Try.ntmps18
    go_wp2_with (go_at_call 20; refine HT.out.mono ?_; rintro e w1 ⟨rfl, rfl⟩)
    go_ret2
    exact ⟨rfl, rfl⟩

set_option maxHeartbeats 400000 in
theorem get_tab (s : ByteArray) (hs : s.size ≤ 200) (n : Nat) (hn : n = S.getD (Tab.spot hashN L S s) 0) :
    Calls Try.prog 12 #[.pointer (some ⟨tb, 0, none⟩), .string s] w fun e w' => (e = .returned (if n = 0 then .tuple #[.int .i64 0, .bool false] else .tuple #[.int .i64 ((n - 1 : Nat) : Int), .bool true])) ∧ Below w.heap.size w w' := by
  obtain ⟨m, hm, hp⟩ := hr.pow
  have c0 : w.cell? ⟨tb, 0, none⟩ = some tv := cell_of_block h.head 0 _ rfl
  have c1 : w.cell? ⟨tb, 1, none⟩ = some (.slice (some ⟨sb, 0, none⟩) S.length S.length) := cell_of_block h.head 1 _ rfl
  have hlt := hr.fine.spot_lt s
  have c2 : w.cell? ⟨sb, Tab.spot hashN L S s, none⟩ = some (.int .i64 (n : Nat)) := by rw [hn]; exact cell_of_block h.slots _ _ (slotCells_get S _ hlt)
  have hbd : n ≤ 100000 := by rw [hn]; exact Nat.le_trans (hr.fine.bound _) hr.few
  have hlen : S.length ≤ 1099511627776 := by rw [hp]; exact Nat.pow_le_pow_right (by omega) hm
  have T := there_tab w tb sb _ L S h hr
  have HT := Lib.hid T
  have F : ∀ w1, Below w.heap.size w w1 → Calls Try.prog 21 #[.pointer (some ⟨tb, 0, none⟩), .string s] w1 fun e w' => e = .returned (.int .i64 (Tab.spot hashN L S s : Nat)) ∧ Below w1.heap.size w1 w' := fun w1 hb => by
    have h' := h.below hb
    exact find_any 0 tb sb tv L S _ m s w1 hs hp hm hr.few hr.fine h'.head h'.slots h'.own
  have HF := Lib.hid F
  clear T F h hr hp hn
  generalize Tab.spot hashN L S s = p at *
  generalize S.length = N at *
  have f1 : ∀ i : Sub w, i.1.cell? ⟨tb, 1, none⟩ = some (.slice (some ⟨sb, 0, none⟩) N N) := fun i => i.cell c1
  have f2 : ∀ i : Sub w, i.1.cell? ⟨sb, p, none⟩ = some (.int .i64 (n : Nat)) := fun i => i.cell c2
  have hp2 : (p : Int) < (N : Int) := by omega
  by_cases h0 : n = 0
  · subst h0
    go_enter Try.func12, Try.ntmps12
    go_wp2_with (go_at_call 20; refine HT.out.mono ?_; rintro e w1 ⟨rfl, rfl⟩)
    refine region_below (by kernel_rfl) (by kernel_rfl) ?_
    repeat (go_big_quiet_step ((go_at_call 21; exact Calls.sub_of (HF.out _ (Subtype.property _)))))
    refine wpQuiet_nil ?_
    intro w1 hb1
    go_wp2
    go_ret2
    exact ⟨rfl, hb1⟩
  · go_enter Try.func12, Try.ntmps12
    go_wp2_with (go_at_call 20; refine HT.out.mono ?_; rintro e w1 ⟨rfl, rfl⟩)
    refine region_below (by kernel_rfl) (by kernel_rfl) ?_
    repeat (go_big_quiet_step ((go_at_call 21; exact Calls.sub_of (HF.out _ (Subtype.property _)))))
    refine wpQuiet_nil ?_
    intro w1 hb1
    go_wp2
    have e1 : ((n : Int) - 1) = ((n - 1 : Nat) : Int) := by omega
    rw [e1]
    go_ret2
    exact ⟨rfl, hb1⟩
end

theorem slotCells_zero (n : Nat) : slotCells (List.replicate n 0) = (List.replicate n (Value.int .i64 0)).toArray := by
  unfold slotCells; rw [List.map_replicate]; rfl

theorem right_new : Right [] (List.replicate 16 0) :=
  ⟨⟨4, by omega, by simp⟩, Tab.Fine.none hashN [] 16 (by omega), List.nodup_nil, by simp [Tab.slots, Tab.slotsFrom], by simp, by simp⟩

set_option maxHeartbeats 400000 in
theorem new_tab (w : World) : Calls Try.prog 9 #[] w fun e w' => ∃ tb sb : Nat, e = .returned (.pointer (some ⟨tb, 0, none⟩)) ∧ w.heap.size ≤ tb ∧ w.heap.size ≤ sb ∧ TabAt w' tb sb (.slice none 0 0) [] (List.replicate 16 0) ∧ Below w.heap.size w w' := by
  have hmk : ∀ w : World, (Instr.makeSlice 41 (.int .i64 16) (.int .i64 16)).run Try.prog w = .ok (.slice (some ⟨w.heap.size, 0, none⟩) 16 16) (w.alloc (.cells (List.replicate 16 (Value.int .i64 0)).toArray 3)) := fun _ => by kernel_rfl
  go_enter Try.func9, Try.ntmps9
  go_wp2
  go_ret
  refine ⟨w.heap.size + 1, w.heap.size, rfl, by omega, by omega, ⟨?_, ?_, ?_, by omega, by simp [Value.ownBlock], by simp [Value.ownBlock]⟩, ((Below.refl _ _).alloc (Nat.le_refl _) _).alloc (by simp) _⟩
  · exact heap_alloc_at _ _ _ (by simp)
  · rw [Below.heap_alloc _ _ _ (by simp)]; exact heap_alloc_new _ _
  · exact World.ownsRow_nil _ _ _ _
end Go.Proofs.Ytifbilmeecndgaa
