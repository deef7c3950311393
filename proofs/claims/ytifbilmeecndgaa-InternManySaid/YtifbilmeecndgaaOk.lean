/-
  intern.Table's methods under one name for a table that is right; a table that is not there.
-/
import Derived.Test.YtifbilmeecndgaaPut
namespace Go.Proofs.Ytifbilmeecndgaa
open Go.RowKit

/-- a text's number; how many there are, if it is not there -/
def idx (s : ByteArray) : List ByteArray → Nat
  | [] => 0
  | x :: l => if x = s then 0 else idx s l + 1
theorem idx_le (s : ByteArray) : ∀ L, idx s L ≤ L.length
  | [] => Nat.le_refl _
  | x :: l => by unfold idx; split <;> simp; have := idx_le s l; omega
theorem idx_get (s : ByteArray) : ∀ L, idx s L < L.length → L.getD (idx s L) ByteArray.empty = s
  | [], h => by simp at h
  | x :: l, h => by
    unfold idx at h ⊢
    split
    · rename_i e; simpa [List.getD] using e
    · rename_i e; rw [if_neg e] at h; have := idx_get s l (by simpa using h); simpa [List.getD] using this
theorem idx_mem (s : ByteArray) : ∀ L, idx s L < L.length ↔ s ∈ L
  | [] => by simp
  | x :: l => by
    unfold idx
    split
    · rename_i e; subst e; simp
    · rename_i e; have := idx_mem s l; simp [this]; intro h; exact (e h.symm).elim
theorem idx_first (s : ByteArray) : ∀ L i, i < idx s L → L.getD i ByteArray.empty ≠ s
  | [], i, h => by simp [idx] at h
  | x :: l, i, h => by
    unfold idx at h
    split at h
    · omega
    · rename_i e
      match i with
      | 0 => simpa [List.getD] using e
      | i + 1 => have := idx_first s l i (by omega); simpa [List.getD] using this
/-- Get's answers -/
def getN (s : ByteArray) (L : List ByteArray) : Nat := if idx s L < L.length then idx s L else 0
def isIn (s : ByteArray) (L : List ByteArray) : Bool := decide (idx s L < L.length)
def isNew (s : ByteArray) (L : List ByteArray) : Bool := decide (L.length ≤ idx s L)
/-- At's answers -/
def atS (L : List ByteArray) (i : Int) : ByteArray := if 0 ≤ i ∧ i < L.length then L.getD i.toNat ByteArray.empty else ByteArray.empty
def atB (L : List ByteArray) (i : Int) : Bool := decide (0 ≤ i ∧ i < L.length)
def putL (L : List ByteArray) (s : ByteArray) : List ByteArray := if idx s L < L.length then L else L ++ [s]

/-- A table that is right, in its blocks f. -/
def TabOk (w : World) (tb : Nat) (L : List ByteArray) (f : Nat → Prop) : Prop :=
  ∃ sb tv S, TabAt w tb sb tv L S ∧ Right L S ∧ (∀ s ∈ L, s.size ≤ 200) ∧ f = Foot tb sb tv ∧ (L = [] → tv = .slice none 0 0)

theorem TabOk.lt {w : World} {tb : Nat} {L : List ByteArray} {f : Nat → Prop} (h : TabOk w tb L f) : ∀ k, f k → k < w.heap.size := by
  obtain ⟨sb, tv, S, h, _, _, rfl, _⟩ := h; exact h.lt
theorem TabOk.kept {F : Nat → Prop} {w w' : World} {tb : Nat} {L : List ByteArray} {f : Nat → Prop} (h : TabOk w tb L f) (hf : Frm F w w') (hF : ∀ k, f k → ¬ F k) : TabOk w' tb L f := by
  obtain ⟨sb, tv, S, h, hr, hs, rfl, hz⟩ := h; exact ⟨sb, tv, S, h.kept hf hF, hr, hs, rfl, hz⟩
theorem TabOk.below {w w' : World} {tb : Nat} {L : List ByteArray} {f : Nat → Prop} (h : TabOk w tb L f) (hb : Below w.heap.size w w') : TabOk w' tb L f :=
  h.kept (bfrm hb (fun _ => False)) (fun _ _ => id)
theorem TabOk.head {w : World} {tb : Nat} {L : List ByteArray} {f : Nat → Prop} (h : TabOk w tb L f) : f tb := by
  obtain ⟨sb, tv, S, h, hr, hs, rfl, _⟩ := h; exact .inl rfl

section
variable {w : World} {tb : Nat} {L : List ByteArray} {f : Nat → Prop} (h : TabOk w tb L f)
include h

theorem put_ok (s : ByteArray) (hs : s.size ≤ 200) (hL : L.length < 99999) :
    Calls Try.prog 10 #[.pointer (some ⟨tb, 0, none⟩), .string s] w fun e w' => e = .returned (.tuple #[.int .i64 (idx s L : Nat), .bool (isNew s L)]) ∧
      Frm f w w' ∧ ∃ f', TabOk w' tb (putL L s) f' ∧ ∀ k, f' k → f k ∨ w.heap.size ≤ k := by
  obtain ⟨sb, tv, S, h, hr, hL', rfl, hz⟩ := h
  by_cases hi : idx s L < L.length
  · have e := idx_get s L hi
    have P := put_old w tb sb tv L S h hr (idx s L) hi (by rw [e]; exact hs)
    rw [e] at P
    refine P.mono ?_
    rintro e w' ⟨rfl, hb⟩
    have hd : isNew s L = false := by unfold isNew; simp; omega
    rw [hd]
    refine ⟨rfl, bfrm hb _, Foot tb sb tv, ?_, fun k hk => .inl hk⟩
    unfold putL; rw [if_pos hi]
    exact ⟨sb, tv, S, h.below hb, hr, hL', rfl, hz⟩
  · have hn : s ∉ L := fun hm => hi ((idx_mem s L).2 hm)
    have he : idx s L = L.length := by have := idx_le s L; omega
    refine (put_new w tb sb tv L S h hr s hs hn hL' hL).mono ?_
    rintro e w' ⟨rfl, tv', sb', S', hT, hR, hF, hk⟩
    have hd : isNew s L = true := by unfold isNew; simp; omega
    rw [hd, he]
    refine ⟨rfl, hF, Foot tb sb' tv', ?_, hk⟩
    unfold putL; rw [if_neg hi]
    refine ⟨sb', tv', S', hT, hR, ?_, rfl, fun e => by simp at e⟩
    intro x hx
    rcases List.mem_append.1 hx with hx | hx
    · exact hL' x hx
    · simp at hx; subst hx; exact hs

theorem get_ok (s : ByteArray) (hs : s.size ≤ 200) :
    Calls Try.prog 12 #[.pointer (some ⟨tb, 0, none⟩), .string s] w fun e w' => e = .returned (.tuple #[.int .i64 (getN s L : Nat), .bool (isIn s L)]) ∧ Below w.heap.size w w' := by
  obtain ⟨sb, tv, S, h, hr, hL', rfl, hz⟩ := h
  refine (get_tab w tb sb tv L S h hr s hs _ rfl).mono ?_
  rintro e w' ⟨rfl, hb⟩
  refine ⟨?_, hb⟩
  unfold getN isIn
  by_cases hi : idx s L < L.length
  · have e := hr.fine.found hr.nodup (idx s L) hi
    rw [idx_get s L hi] at e
    rw [e, if_neg (by omega), if_pos hi]
    simp [hi]
  · have hne : ∀ i, i < L.length → L.getD i ByteArray.empty ≠ s := fun i hlt e => hi ((idx_mem s L).2 (by rw [← e]; simp [List.getD, hlt]))
    obtain ⟨e, _⟩ := hr.fine.free s hne
    rw [e, if_pos rfl, if_neg hi]
    simp [hi]

theorem len_ok : Calls Try.prog 14 #[.pointer (some ⟨tb, 0, none⟩)] w fun e w' => e = .returned (.int .i64 (L.length : Nat)) ∧ w = w' := by
  obtain ⟨sb, tv, S, h, hr, hL', rfl, hz⟩ := h; exact len_tab w tb sb tv L S h hr
theorem slots_ok : Calls Try.prog 15 #[.pointer (some ⟨tb, 0, none⟩)] w fun e w' => e = .returned (.int .i64 (Tab.slots L.length : Nat)) ∧ w = w' := by
  obtain ⟨sb, tv, S, h, hr, hL', rfl, hz⟩ := h; rw [← hr.len]; exact slots_tab w tb sb tv L S h hr
theorem at_ok (i : Int) : Calls Try.prog 18 #[.pointer (some ⟨tb, 0, none⟩), .int .i64 i] w fun e w' => e = .returned (.tuple #[.string (atS L i), .bool (atB L i)]) ∧ w = w' := by
  obtain ⟨sb, tv, S, h, hr, hL', rfl, hz⟩ := h
  unfold atS atB
  by_cases hi : 0 ≤ i ∧ i < L.length
  · obtain ⟨k, rfl⟩ := Int.eq_ofNat_of_zero_le hi.1
    rw [if_pos hi, decide_eq_true hi, Int.toNat_natCast]
    exact at_in w tb sb tv L S h hr k (by omega)
  · rw [if_neg hi, decide_eq_false hi]
    exact at_out w tb sb tv L S h hr i (by omega)
end

set_option maxHeartbeats 400000 in
theorem new_ok (w : World) : Calls Try.prog 9 #[] w fun e w' => ∃ tb f, e = .returned (.pointer (some ⟨tb, 0, none⟩)) ∧ TabOk w' tb [] f ∧ (∀ k, f k → w.heap.size ≤ k) ∧ Below w.heap.size w w' := by
  refine (new_tab w).mono ?_
  rintro e w' ⟨tb, sb, rfl, h1, h2, hT, hb⟩
  refine ⟨tb, _, rfl, ⟨sb, _, _, hT, right_new, by simp, rfl, fun _ => rfl⟩, ?_, hb⟩
  rintro k (rfl | rfl | hk)
  · exact h1
  · exact h2
  · simp [Value.ownBlock] at hk

/-- All: the texts, in a row of its own. -/
def AllOut (w : World) (L : List ByteArray) (e : Ending) (w' : World) : Prop :=
  ∃ v a c, e = .returned v ∧ v = .slice a L.length c ∧ (0 < L.length → w'.ownsRow w.heap.size 9 1 v L.length (L.map Value.string)) ∧ Below w.heap.size w w'

set_option maxHeartbeats 1000000 in
theorem all_ok {w : World} {tb : Nat} {L : List ByteArray} {f : Nat → Prop} (h : TabOk w tb L f) :
    Calls Try.prog 17 #[.pointer (some ⟨tb, 0, none⟩)] w (AllOut w L) := by
  obtain ⟨sb, tv, S, h, hr, hL', rfl, hz⟩ := h
  have c0 : w.cell? ⟨tb, 0, none⟩ = some tv := cell_of_block h.head 0 _ rfl
  have T := there_tab w tb sb _ L S h hr
  have HT := Lib.hid T
  obtain ⟨i0, hi0, hz0, hz1, hz2⟩ := info_parts Try.info9
  have hfew := hr.few
  have hown := h.own
  clear T h hr
  rcases hown.2 with ⟨rfl, h0⟩ | ⟨g, cap, cur, rfl, hb, hg, hn, hm, hs, ht⟩
  · have hL0 : L = [] := List.eq_nil_of_length_eq_zero h0
    subst hL0
    clear h0 hown hL'
    go_enter Try.func17, Try.ntmps17
    go_wp2_with (first | (go_at_call 20; refine HT.out.mono ?_; rintro e w1 ⟨rfl, rfl⟩))
    refine region_tail 9 (by kernel_rfl) (by kernel_rfl) ?_
    simp only [List.take_succ_cons, List.take_zero, List.drop_succ_cons, List.drop_zero]
    repeat still_step
    refine wpStill_nil ?_
    go_wp2
    go_ret
    exact ⟨_, none, 0, rfl, rfl, fun h => absurd h (by simp), (Below.refl _ _).drew⟩
  · by_cases hl0 : 0 < L.length
    · have HO := Lib.hid hown
      clear ht hown hg hs
      have hcn : (0 : Nat) ≤ cap := Nat.zero_le _
      go_enter Try.func17, Try.ntmps17
      go_wp2_with (first | (go_at_call 20; refine HT.out.mono ?_; rintro e w1 ⟨rfl, rfl⟩))
      refine region_tail 9 (by kernel_rfl) (by kernel_rfl) ?_
      simp only [List.take_succ_cons, List.take_zero, List.drop_succ_cons, List.drop_zero]
      repeat still_step
      refine wpStill_nil ?_
      refine wpList_append_grows w.drew rfl (.tmp 10) (.tmp 14) 22 rfl 9 i0 (.string ByteArray.empty) 1 16 Try.underlying22 hi0 hz0 hz1 hz2 rfl (by decide) (some ⟨g, 0, none⟩) 0 0 [] rfl (by simp) rfl (by simp) ⟨g, 0, none⟩ L.length cap (L.map Value.string) rfl (by simp) (fun j u hu => (HO.out.cells (g := g) rfl) j u hu) (by intro u hu; simp only [List.mem_map] at hu; obtain ⟨x, _, rfl⟩ := hu; rfl) (by omega) (by unfold maxLen; omega) (by omega) ?_
      intro v' w' hown' hgr'
      obtain ⟨a, c, hv⟩ := tv_len (L := L) (tv := v') (B := w.heap.size) (w := w') (by simpa using hown')
      rw [hv] at hown' ⊢
      go_wp2
      go_ret
      exact ⟨_, a, c, rfl, rfl, fun _ => by simpa using hown', (Below.refl _ _).drew.grown hgr' (Nat.le_refl _) (fun k hk => by cases hk)⟩
    · have hL0 : L = [] := List.eq_nil_of_length_eq_zero (by omega)
      cases hz hL0
end Go.Proofs.Ytifbilmeecndgaa
