/-
  Frames: blocks that may turn; what stays whatever turns in them. Whether two lists, and two configurations, are alike. The reference's Out and All. The reference's All. As RelTail; one operation of the head may come late, behind the tail's first.
-/
import Derived.Test.YtlhpjfnfemebdaaJMachX
import Derived.Deep.RegionLaw
import Derived.Test.YtlhpjfnfemebdaaOut
import Derived.Test.YtlhpjfnfemebdaaJAnyRel
namespace Go.Proofs.Ytlhpjfnfemebdaa
open Go.RowKit
theorem Frm.trans2 {F G : Nat → Prop} {a b c : World} (h : Frm F a b) (k : Frm G b c) (hG : ∀ i, i < a.heap.size → G i → F i) : Frm F a c :=
 ⟨k.os.trans h.os, k.tape.trans h.tape, k.output.trans h.output, Nat.le_trans h.size k.size, fun i hi hF => (k.block i (Nat.lt_of_lt_of_le hi h.size) (fun hg => hF (hG i hi hg))).trans (h.block i hi hF)⟩
theorem frm_grow {F : Nat → Prop} {w w' : World} {r : Option Nat} (hg : w.grownBy w' r) (hr : ∀ q, r = some q → F q) : Frm F w w' :=
 ⟨hg.os, hg.tape, hg.output, hg.size, fun k hk hF => hg.block k hk (fun e => hF (hr k e.symm))⟩
theorem frm_set {F : Nat → Prop} {w w' : World} (h : Frm F w w') {b : Nat} (hb : F b) (i : Nat) (v : Value) : Frm F w (w'.setCell ⟨b, i, none⟩ v) :=
 ⟨h.os, h.tape, h.output, by have := h.size; simp; exact this, fun k hk hF => by
  have hne : k ≠ b := fun e => hF (by rw [e]; exact hb)
  rw [heap_set_ne hne]
  exact h.block k hk hF⟩
def St (F : Nat → Prop) (P : World → Prop) (w : World) : Prop := ∀ w', Frm F w w' → P w'
theorem St.now {F : Nat → Prop} {P : World → Prop} {w : World} (h : St F P w) : P w := h w (Frm.refl F w)
theorem St.step {F F' : Nat → Prop} {P : World → Prop} {w w' : World} (h : St F P w) (k : Frm F w w') (hF : ∀ q, F' q → F q ∨ w.heap.size ≤ q) : St F' P w' := fun w'' k' => by
 refine h w'' (k.trans2 k' fun i hi hf => ?_)
 rcases hF i hf with e | e
 ·exact e
 ·omega
theorem St.more {F : Nat → Prop} {P : World → Prop} {w w' : World} (h : St F P w) (hb : Below w.heap.size w w') : St F P w' := h.step (bfrm hb F) fun _ hq => .inl hq
theorem St.imp {F : Nat → Prop} {P Q : World → Prop} {w : World} (h : St F P w) (hi : ∀ w', P w' → Q w') : St F Q w := fun w' k => hi w' (h w' k)
theorem own_st {w : World} {base : Nat} {e : TypeId} {size : Nat} {v : Value} {n : Nat} {xs : List Value} (h : w.ownsRow base e size v n xs) {F : Nat → Prop} (hF : ∀ k, v.ownBlock = some k → ¬ F k) : St F (fun w => w.ownsRow base e size v n xs) w := fun _ k => ownsRow_frm h k hF
theorem OwnI.st {w : World} {base : Nat} {v : Value} {l : List Int} (h : OwnI base w v l) {F : Nat → Prop} (hF : ∀ k, F k → k < base) : St F (fun w => IntsAt w v l) w := (own_st h fun k e hk => by
 have := (World.ownsRow.lt h k e).1
 have := hF k hk
 omega).imp fun _ h => OwnI.ints h
theorem eds_st {w : World} {base : Nat} {v : Value} {l : List Ed} (h : w.ownsRow base 65 3 v l.length (edCells l)) {F : Nat → Prop} (hF : ∀ k, F k → k < base) : St F (fun w => EdgesAt w v l) w := (own_st h fun k e hk => by
 have := (World.ownsRow.lt h k e).1
 have := hF k hk
 omega).imp fun _ h => ownsRow_edges h
section
variable {w wr w' : World} {c d : Array Value} {t r : TypeId}
theorem Bx2.grown (h : Bx2 w wr c t d r) {b : Option Nat} (hg : wr.grownBy w' b) (hr : ∀ k, b = some k → w.heap.size + 2 ≤ k) : Bx2 w w' c t d r := by
 have hs := (Array.getElem?_eq_some_iff.1 h.blk2).1
 have hne : ∀ k, k < w.heap.size + 2 → some k ≠ b := fun k hk e => by have := hr k e.symm; omega
 refine ⟨h.below.grown hg h.below.size (fun k hk => by have := hr k hk; omega), ?_, ?_⟩
 ·rw [hg.block _ (by omega) (hne _ (by omega))]; exact h.blk1
 ·rw [hg.block _ hs (hne _ (by omega))]; exact h.blk2
theorem Bx2.set2 (h : Bx2 w wr c t d r) (p : Nat) (v : Value) : Bx2 w (wr.setCell ⟨w.heap.size + 1, p, none⟩ v) c t (d.setIfInBounds p v) r :=
 ⟨h.below.setCell (p := ⟨w.heap.size + 1, p, none⟩) (by show w.heap.size ≤ w.heap.size + 1; omega) v, by rw [heap_set_ne (by omega)]; exact h.blk1, heap_setCell_block h.blk2 p v⟩
theorem Bx2.drew (h : Bx2 w wr c t d r) : Bx2 w wr.drew c t d r := ⟨h.below.drew, h.blk1, h.blk2⟩
theorem Bx2.size (h : Bx2 w wr c t d r) : w.heap.size + 2 ≤ wr.heap.size := (Array.getElem?_eq_some_iff.1 h.blk2).1
end
end Go.Proofs.Ytlhpjfnfemebdaa
namespace Go.Proofs.Ytlhpjfnfemebdaa
open Go.RowKit
theorem int_ext {a b : List Int} (hl : a.length = b.length) (h : ∀ k, k < a.length → a.getD k 0 = b.getD k 0) : a = b := by
 refine List.ext_getElem hl fun k h1 h2 => ?_
 have := h k h1
 rwa [List.getD_eq_getElem?_getD, List.getD_eq_getElem?_getD, List.getElem?_eq_getElem h1, List.getElem?_eq_getElem h2] at this
set_option maxRecDepth 100000 in
set_option maxHeartbeats 8000000 in
theorem inteq_ok (v u : Value) (a b : List Int) (w : World) (h : IntsAt w v a) (k : IntsAt w u b) (hl : a.length ≤ 1000000) :
  Calls Try.prog 12 #[v, u] w fun r w' => r = .returned (.bool (decide (a = b))) ∧ Below w.heap.size w w' := by
 obtain ⟨aa, ac, rfl, ha⟩ := h
 obtain ⟨ba, bc, rfl, hb⟩ := k
 have HA := Lib.hid ha
 have HB := Lib.hid hb
 clear ha hb
 by_cases hlen : a.length = b.length
 rotate_left
 ·have E : decide (a = b) = false := decide_eq_false (fun e => hlen (by rw [e]))
  rw [E]
  have n1 : ((a.length : Int) != (b.length : Int)) = true := by simp; omega
  clear E hlen HA HB
  go_enter Try.func12, Try.ntmps12
  go_wp2_with fail
  go_ret
  exact ⟨rfl, Below.refl _ _⟩
 have HEQ : Hid ((∀ k, k < a.length → a.getD k 0 = b.getD k 0) → decide (a = b) = true) := Lib.hid (fun q => decide_eq_true (int_ext hlen q))
 have HNE : Hid (∀ k, a.getD k 0 ≠ b.getD k 0 → decide (a = b) = false) := Lib.hid (fun k q => decide_eq_false (fun e => q (by rw [e])))
 have n1 : ((a.length : Int) != (b.length : Int)) = false := by simp; omega
 have HLN := Lib.hid hlen
 generalize decide (a = b) = RES at *
 clear hlen
 go_enter Try.func12, Try.ntmps12
 go_wp2_with fail
 clear n1
 go_loopg [5] a.length (fun fu c wr => ∃ k : Nat, k + fu = a.length ∧ c = .int .i64 k ∧ Hid (∀ j, j < k → a.getD j 0 = b.getD j 0) ∧ Hid (Below w.heap.size w wr))
 case atStart => exact ⟨0, by omega, rfl, Lib.hid (fun j hj => by omega), Lib.hid (Below.refl _ _)⟩
 case round =>
  obtain ⟨k, hk, rfl, HI, HBW⟩ := hrel
  by_cases hlt : k < a.length
  ·obtain ⟨b1, o1, rfl, d1⟩ := HA.out k hlt
   obtain ⟨b2, o2, rfl, e1⟩ := HB.out k (by have := HLN.out; omega)
   have d1 := bkeep HBW.out d1
   have e1 := bkeep HBW.out e1
   have z1 : (k : Int) < (a.length : Int) := by omega
   have z2 : (k : Int) < (b.length : Int) := by have := HLN.out; omega
   have HN := Lib.hid (HNE.out k)
   have HI2 : Hid (a.getD k 0 = b.getD k 0 → ∀ j, j < k + 1 → a.getD j 0 = b.getD j 0) := Lib.hid (fun h j hj => by
    by_cases e : j = k
    ·rw [e]; exact h
    ·exact HI.out j (by omega))
   clear HNE
   generalize a.getD k 0 = x at *
   generalize b.getD k 0 = y at *
   by_cases hxy : x = y
   ·have HI3 := Lib.hid (HI2.out hxy)
    have q1 : (x != y) = false := by simp [hxy]
    clear HI2 HN hxy
    go_wp2_with fail
    go_quiet (fail)
    go_wp2_with fail
    go_roundg (a.length - (k + 1))
    case measure => omega
    case rel => exact ⟨k + 1, by omega, by simp, HI3, Lib.hid (by first | exact HBW.out.drew | exact bdrewN HBW.out _)⟩
   ·have E := Lib.hid (HN.out hxy)
    have q1 : (x != y) = true := by simpa using hxy
    clear HI2 HN hxy
    go_wp2_with fail
    go_quiet (fail)
    go_wp2_with fail
    go_ret
    exact ⟨by rw [E.out]; rfl, by first | exact HBW.out.drew | exact bdrewN HBW.out _⟩
  ·have E := Lib.hid (HEQ.out (fun j hj => HI.out j (by omega)))
   go_wp2_with fail
   go_ret
   exact ⟨by rw [E.out]; rfl, HBW.out⟩
def sameC (a b : Cf) : Bool := decide (a.pc = b.pc) && decide (a.mem = b.mem) && decide (a.regs = b.regs) && decide (a.buf = b.buf)
theorem rows_ext {α : Type} {a b : List (List α)} (hl : a.length = b.length) (h : ∀ k, k < a.length → a.getD k [] = b.getD k []) : a = b := by
 refine List.ext_getElem hl fun k h1 h2 => ?_
 have := h k h1
 rwa [List.getD_eq_getElem?_getD, List.getD_eq_getElem?_getD, List.getElem?_eq_getElem h1, List.getElem?_eq_getElem h2] at this
theorem sameC_iff {a b : Cf} : sameC a b = true ↔ a.pc = b.pc ∧ a.mem = b.mem ∧ a.regs = b.regs ∧ a.buf = b.buf := by
 unfold sameC
 simp only [Bool.and_eq_true, decide_eq_true_iff]
 constructor
 ·rintro ⟨⟨⟨h1, h2⟩, h3⟩, h4⟩; exact ⟨h1, h2, h3, h4⟩
 ·rintro ⟨h1, h2, h3, h4⟩; exact ⟨⟨⟨h1, h2⟩, h3⟩, h4⟩
theorem sameC_not {a b : Cf} (h : ¬ (a.pc = b.pc ∧ a.mem = b.mem ∧ a.regs = b.regs ∧ a.buf = b.buf)) : sameC a b = false := by
 cases hb : sameC a b
 ·rfl
 ·exact absurd (sameC_iff.1 hb) h
set_option maxRecDepth 100000 in
set_option maxHeartbeats 32000000 in
theorem confsame_ok (v u : Value) (a b : Cf) (w : World) (ha : CfV w v a) (hb : CfV w u b) (l1 : a.pc.length ≤ 1000) (l2 : a.mem.length ≤ 1000) (l5 : a.regs.length ≤ 1000) (l6 : a.buf.length ≤ 1000) (l3 : ∀ k, k < a.regs.length → (a.regs.getD k []).length ≤ 1000000) (l4 : ∀ k, k < a.buf.length → (a.buf.getD k []).length ≤ 1000000) :
  Calls Try.prog 71 #[v, u] w fun r w' => r = .returned (.bool (sameC a b)) ∧ Below w.heap.size w w' := by
 obtain ⟨pa, pac, ra, rac, ma, mac, ba, bac, rfl, a1, a2, a3, a4⟩ := ha.var
 obtain ⟨pb, pbc, rb, rbc, mb, mbc, bb, bbc, rfl, b1, b2, b3, b4⟩ := hb.var
 have S0 := Lib.hid (Bx2.start w #[.slice pa a.pc.length pac, .slice ra a.regs.length rac, .slice ma a.mem.length mac, .slice ba a.buf.length bac] 52 #[.slice pb b.pc.length pbc, .slice rb b.regs.length rbc, .slice mb b.mem.length mbc, .slice bb b.buf.length bbc] 52)
 have HP := Lib.hid (fun (w' : World) (h : Below w.heap.size w w') => inteq_ok _ _ a.pc b.pc w' (a1.below h) (b1.below h) (by omega))
 have HM := Lib.hid (fun (w' : World) (h : Below w.heap.size w w') => inteq_ok _ _ a.mem b.mem w' (a3.below h) (b3.below h) (by omega))
 obtain ⟨t1, t2, t3, hra⟩ := a2
 cases t3
 obtain ⟨t1, t2, t3, hrb⟩ := b2
 cases t3
 obtain ⟨t1, t2, t3, hba⟩ := a4
 cases t3
 obtain ⟨t1, t2, t3, hbb⟩ := b4
 cases t3
 have HRA1 := Lib.hid hra
 have HRB1 := Lib.hid hrb
 have HRA2 := Lib.hid hba
 have HRB2 := Lib.hid hbb
 have HLA1 := Lib.hid l3
 have HLA2 := Lib.hid l4
 have HNOT := Lib.hid (sameC_not (a := a) (b := b))
 have HY0 : Hid (a.pc = b.pc ∧ a.mem = b.mem ∧ a.regs = b.regs ∧ a.buf = b.buf → sameC a b = true) := Lib.hid sameC_iff.2
 clear ha hb a1 a3 b1 b3 hra hrb hba hbb l3 l4
 generalize hw2 : (w.alloc (.cells #[.slice pa a.pc.length pac, .slice ra a.regs.length rac, .slice ma a.mem.length mac, .slice ba a.buf.length bac] 52)).alloc (.cells #[.slice pb b.pc.length pbc, .slice rb b.regs.length rbc, .slice mb b.mem.length mbc, .slice bb b.buf.length bbc] 52) = w2 at *
 have a0 := cell_of_block S0.out.blk1 0 (.slice pa a.pc.length pac) rfl
 have b0 := cell_of_block S0.out.blk2 0 (.slice pb b.pc.length pbc) rfl
 generalize sameC a b = RES at *
 by_cases h1 : a.pc = b.pc
 rotate_left
 ·have E := Lib.hid (HNOT.out (fun q => h1 q.1))
  rw [decide_eq_false h1] at HP
  clear HNOT HY0 h1
  go_enter Try.func71, Try.ntmps71
  go_wp2_with (go_at_call 12; refine (HP.out _ S0.out.below).mono ?_; rintro e1 w3 ⟨rfl, hb1⟩; have S1 := Lib.hid (S0.out.more hb1); clear hb1; have a0 := cell_of_block S1.out.blk1 0 _ rfl; have a1 := cell_of_block S1.out.blk1 1 _ rfl; have a2 := cell_of_block S1.out.blk1 2 _ rfl; have a3 := cell_of_block S1.out.blk1 3 _ rfl; have b0 := cell_of_block S1.out.blk2 0 _ rfl; have b1 := cell_of_block S1.out.blk2 1 _ rfl; have b2 := cell_of_block S1.out.blk2 2 _ rfl; have b3 := cell_of_block S1.out.blk2 3 _ rfl)
  go_ret
  exact ⟨by rw [E.out]; rfl, S1.out.below⟩
 rw [decide_eq_true h1] at HP
 have H1 := Lib.hid h1
 clear h1
 by_cases h2 : a.mem = b.mem
 rotate_left
 ·have E := Lib.hid (HNOT.out (fun q => h2 q.2.1))
  rw [decide_eq_false h2] at HM
  clear HNOT HY0 h2
  go_enter Try.func71, Try.ntmps71
  go_wp2_with (first
   | (go_at_call 12; refine (HM.out _ S1.out.below).mono ?_; rintro e2 w4 ⟨rfl, hb2⟩; have S2 := Lib.hid (S1.out.more hb2); clear hb2 a0 a1 a2 a3 b0 b1 b2 b3; have a0 := cell_of_block S2.out.blk1 0 _ rfl; have a1 := cell_of_block S2.out.blk1 1 _ rfl; have a2 := cell_of_block S2.out.blk1 2 _ rfl; have a3 := cell_of_block S2.out.blk1 3 _ rfl; have b0 := cell_of_block S2.out.blk2 0 _ rfl; have b1 := cell_of_block S2.out.blk2 1 _ rfl; have b2 := cell_of_block S2.out.blk2 2 _ rfl; have b3 := cell_of_block S2.out.blk2 3 _ rfl)
   | (go_at_call 12; refine (HP.out _ S0.out.below).mono ?_; rintro e1 w3 ⟨rfl, hb1⟩; have S1 := Lib.hid (S0.out.more hb1); clear hb1; have a0 := cell_of_block S1.out.blk1 0 _ rfl; have a1 := cell_of_block S1.out.blk1 1 _ rfl; have a2 := cell_of_block S1.out.blk1 2 _ rfl; have a3 := cell_of_block S1.out.blk1 3 _ rfl; have b0 := cell_of_block S1.out.blk2 0 _ rfl; have b1 := cell_of_block S1.out.blk2 1 _ rfl; have b2 := cell_of_block S1.out.blk2 2 _ rfl; have b3 := cell_of_block S1.out.blk2 3 _ rfl))
  go_ret
  exact ⟨by rw [E.out]; rfl, S2.out.below⟩
 rw [decide_eq_true h2] at HM
 have H2 := Lib.hid h2
 clear h2
 by_cases h3 : a.regs.length = b.regs.length
 rotate_left
 ·have E := Lib.hid (HNOT.out (fun q => h3 (by rw [q.2.2.1])))
  have n1 : ((a.regs.length : Int) != (b.regs.length : Int)) = true := by simp; omega
  clear HNOT HY0 h3
  go_enter Try.func71, Try.ntmps71
  go_wp2_with (first
   | (go_at_call 12; refine (HM.out _ S1.out.below).mono ?_; rintro e2 w4 ⟨rfl, hb2⟩; have S2 := Lib.hid (S1.out.more hb2); clear hb2 a0 a1 a2 a3 b0 b1 b2 b3; have a0 := cell_of_block S2.out.blk1 0 _ rfl; have a1 := cell_of_block S2.out.blk1 1 _ rfl; have a2 := cell_of_block S2.out.blk1 2 _ rfl; have a3 := cell_of_block S2.out.blk1 3 _ rfl; have b0 := cell_of_block S2.out.blk2 0 _ rfl; have b1 := cell_of_block S2.out.blk2 1 _ rfl; have b2 := cell_of_block S2.out.blk2 2 _ rfl; have b3 := cell_of_block S2.out.blk2 3 _ rfl)
   | (go_at_call 12; refine (HP.out _ S0.out.below).mono ?_; rintro e1 w3 ⟨rfl, hb1⟩; have S1 := Lib.hid (S0.out.more hb1); clear hb1; have a0 := cell_of_block S1.out.blk1 0 _ rfl; have a1 := cell_of_block S1.out.blk1 1 _ rfl; have a2 := cell_of_block S1.out.blk1 2 _ rfl; have a3 := cell_of_block S1.out.blk1 3 _ rfl; have b0 := cell_of_block S1.out.blk2 0 _ rfl; have b1 := cell_of_block S1.out.blk2 1 _ rfl; have b2 := cell_of_block S1.out.blk2 2 _ rfl; have b3 := cell_of_block S1.out.blk2 3 _ rfl))
  go_ret
  exact ⟨by rw [E.out]; rfl, S2.out.below⟩
 have n1 : ((a.regs.length : Int) != (b.regs.length : Int)) = false := by simp; omega
 have HLEN1 := Lib.hid h3
 by_cases h4 : a.buf.length = b.buf.length
 rotate_left
 ·have E := Lib.hid (HNOT.out (fun q => h4 (by rw [q.2.2.2])))
  have n2 : ((a.buf.length : Int) != (b.buf.length : Int)) = true := by simp; omega
  clear HNOT HY0 h4 h3
  go_enter Try.func71, Try.ntmps71
  go_wp2_with (first
   | (go_at_call 12; refine (HM.out _ S1.out.below).mono ?_; rintro e2 w4 ⟨rfl, hb2⟩; have S2 := Lib.hid (S1.out.more hb2); clear hb2 a0 a1 a2 a3 b0 b1 b2 b3; have a0 := cell_of_block S2.out.blk1 0 _ rfl; have a1 := cell_of_block S2.out.blk1 1 _ rfl; have a2 := cell_of_block S2.out.blk1 2 _ rfl; have a3 := cell_of_block S2.out.blk1 3 _ rfl; have b0 := cell_of_block S2.out.blk2 0 _ rfl; have b1 := cell_of_block S2.out.blk2 1 _ rfl; have b2 := cell_of_block S2.out.blk2 2 _ rfl; have b3 := cell_of_block S2.out.blk2 3 _ rfl)
   | (go_at_call 12; refine (HP.out _ S0.out.below).mono ?_; rintro e1 w3 ⟨rfl, hb1⟩; have S1 := Lib.hid (S0.out.more hb1); clear hb1; have a0 := cell_of_block S1.out.blk1 0 _ rfl; have a1 := cell_of_block S1.out.blk1 1 _ rfl; have a2 := cell_of_block S1.out.blk1 2 _ rfl; have a3 := cell_of_block S1.out.blk1 3 _ rfl; have b0 := cell_of_block S1.out.blk2 0 _ rfl; have b1 := cell_of_block S1.out.blk2 1 _ rfl; have b2 := cell_of_block S1.out.blk2 2 _ rfl; have b3 := cell_of_block S1.out.blk2 3 _ rfl))
  go_ret
  exact ⟨by rw [E.out]; rfl, S2.out.below⟩
 have n2 : ((a.buf.length : Int) != (b.buf.length : Int)) = false := by simp; omega
 have HLEN2 := Lib.hid h4
 have HYES : Hid ((∀ j, j < a.regs.length → a.regs.getD j [] = b.regs.getD j []) → (∀ j, j < a.buf.length → a.buf.getD j [] = b.buf.getD j []) → RES = true) := Lib.hid (fun q1 q2 => HY0.out ⟨H1.out, H2.out, rows_ext h3 q1, rows_ext h4 q2⟩)
 have HNE1 : Hid (∀ k, a.regs.getD k [] ≠ b.regs.getD k [] → RES = false) := Lib.hid (fun k q => HNOT.out (fun z => q (by rw [z.2.2.1])))
 have HNE2 : Hid (∀ k, a.buf.getD k [] ≠ b.buf.getD k [] → RES = false) := Lib.hid (fun k q => HNOT.out (fun z => q (by rw [z.2.2.2])))
 clear HNOT HY0 h3 h4 H1 H2
 go_enter Try.func71, Try.ntmps71
 go_wp2_with (first
  | (go_at_call 12; refine (HM.out _ S1.out.below).mono ?_; rintro e2 w4 ⟨rfl, hb2⟩; have S2 := Lib.hid (S1.out.more hb2); clear hb2 a0 a1 a2 a3 b0 b1 b2 b3; have a0 := cell_of_block S2.out.blk1 0 _ rfl; have a1 := cell_of_block S2.out.blk1 1 _ rfl; have a2 := cell_of_block S2.out.blk1 2 _ rfl; have a3 := cell_of_block S2.out.blk1 3 _ rfl; have b0 := cell_of_block S2.out.blk2 0 _ rfl; have b1 := cell_of_block S2.out.blk2 1 _ rfl; have b2 := cell_of_block S2.out.blk2 2 _ rfl; have b3 := cell_of_block S2.out.blk2 3 _ rfl)
  | (go_at_call 12; refine (HP.out _ S0.out.below).mono ?_; rintro e1 w3 ⟨rfl, hb1⟩; have S1 := Lib.hid (S0.out.more hb1); clear hb1; have a0 := cell_of_block S1.out.blk1 0 _ rfl; have a1 := cell_of_block S1.out.blk1 1 _ rfl; have a2 := cell_of_block S1.out.blk1 2 _ rfl; have a3 := cell_of_block S1.out.blk1 3 _ rfl; have b0 := cell_of_block S1.out.blk2 0 _ rfl; have b1 := cell_of_block S1.out.blk2 1 _ rfl; have b2 := cell_of_block S1.out.blk2 2 _ rfl; have b3 := cell_of_block S1.out.blk2 3 _ rfl))
 clear a0 a1 a2 a3 b0 b1 b2 b3 n1 n2 hw2
 go_loopg [5] a.regs.length (fun fu c wr => ∃ k : Nat, k + fu = a.regs.length ∧ c = .int .i64 k ∧ Hid (∀ j, j < k → a.regs.getD j [] = b.regs.getD j []) ∧ Hid (Below w4.heap.size w4 wr))
 case atStart => exact ⟨0, by omega, rfl, Lib.hid (fun j hj => by omega), Lib.hid (Below.refl _ _)⟩
 case round =>
  obtain ⟨k, hk, rfl, HI, HBW⟩ := hrel
  have SS := Lib.hid (S2.out.more HBW.out)
  have l1 := cell_of_block SS.out.blk1 1 (.slice ra a.regs.length rac) rfl
  have l2 := cell_of_block SS.out.blk2 1 (.slice rb b.regs.length rbc) rfl
  by_cases hlt : k < a.regs.length
  ·have z1 : (k : Int) < (a.regs.length : Int) := by omega
   have z2 : (k : Int) < (b.regs.length : Int) := by have := HLEN1.out; omega
   obtain ⟨p1, q1, u1, rfl, x1, y1⟩ := HRA1.out k hlt
   obtain ⟨p2, q2, u2, rfl, x2, y2⟩ := HRB1.out k (by have := HLEN1.out; omega)
   have x1 := bkeep SS.out.below x1
   have x2 := bkeep SS.out.below x2
   have HC := Lib.hid (fun (s : Sub wr) => inteq_ok u1 u2 (a.regs.getD k []) (b.regs.getD k []) s.1 (y1.below (SS.out.below.trans (s.2.mono SS.out.below.size))) (y2.below (SS.out.below.trans (s.2.mono SS.out.below.size))) (HLA1.out k hlt))
   have HN := Lib.hid (HNE1.out k)
   have HI2 : Hid (a.regs.getD k [] = b.regs.getD k [] → ∀ j, j < k + 1 → a.regs.getD j [] = b.regs.getD j []) := Lib.hid (fun h j hj => by
    by_cases e : j = k
    ·rw [e]; exact h
    ·exact HI.out j (by omega))
   obtain ⟨e1a, e1c, rfl, -⟩ := y1
   obtain ⟨e2a, e2c, rfl, -⟩ := y2
   clear HNE1
   generalize a.regs.getD k [] = x at *
   generalize b.regs.getD k [] = y at *
   have f1 : ∀ s : Sub wr, s.1.cell? ⟨w.heap.size, 1, none⟩ = some (.slice (some ⟨p1, q1, none⟩) a.regs.length rac) := fun s => s.cell l1
   have f2 : ∀ s : Sub wr, s.1.cell? ⟨w.heap.size + 1, 1, none⟩ = some (.slice (some ⟨p2, q2, none⟩) b.regs.length rbc) := fun s => s.cell l2
   have f3 : ∀ s : Sub wr, s.1.cell? ⟨p1, q1 + k, none⟩ = some (.slice e1a x.length e1c) := fun s => s.cell x1
   have f4 : ∀ s : Sub wr, s.1.cell? ⟨p2, q2 + k, none⟩ = some (.slice e2a y.length e2c) := fun s => s.cell x2
   by_cases hxy : x = y
   ·have HI3 := Lib.hid (HI2.out hxy)
    rw [decide_eq_true hxy] at HC
    clear HI2 HN hxy
    go_wp2_with fail
    refine region_below (by kernel_rfl) (by kernel_rfl) ?_
    repeat (go_big_quiet_step ((go_at_call 12; exact Calls.sub_of (HC.out _))))
    refine wpQuiet_nil ?_
    intro w6 hb6
    have HB6 := Lib.hid (HBW.out.trans (hb6.mono HBW.out.size))
    clear hb6
    go_wp2_with fail
    go_roundg (a.regs.length - (k + 1))
    case measure => omega
    case rel => exact ⟨k + 1, by omega, by simp, HI3, HB6⟩
   ·have E := Lib.hid (HN.out hxy)
    rw [decide_eq_false hxy] at HC
    clear HI2 HN hxy
    go_wp2_with fail
    refine region_below (by kernel_rfl) (by kernel_rfl) ?_
    repeat (go_big_quiet_step ((go_at_call 12; exact Calls.sub_of (HC.out _))))
    refine wpQuiet_nil ?_
    intro w6 hb6
    have S6 := Lib.hid (SS.out.more hb6)
    clear hb6
    go_wp2_with fail
    go_ret
    exact ⟨by rw [E.out]; rfl, S6.out.below⟩
  ·have hkk : k = a.regs.length := by omega
   subst hkk
   have HALL := Lib.hid (fun j (hj : j < a.regs.length) => HI.out j (by omega))
   obtain ⟨wq, hwq⟩ : ∃ x, x = wr := ⟨_, rfl⟩
   subst hwq
   clear HBW
   go_wp2_with fail
   go_loopg [6] a.buf.length (fun fu c wr => ∃ k : Nat, k + fu = a.buf.length ∧ c = .int .i64 k ∧ Hid (∀ j, j < k → a.buf.getD j [] = b.buf.getD j []) ∧ Hid (Below wq.heap.size wq wr))
   case atStart => exact ⟨0, by omega, rfl, Lib.hid (fun j hj => by omega), Lib.hid (Below.refl _ _)⟩
   case round =>
    obtain ⟨k, hk, rfl, HI, HBW⟩ := hrel
    have ST := Lib.hid (SS.out.more HBW.out)
    have l1 := cell_of_block ST.out.blk1 3 (.slice ba a.buf.length bac) rfl
    have l2 := cell_of_block ST.out.blk2 3 (.slice bb b.buf.length bbc) rfl
    by_cases hlt : k < a.buf.length
    ·have z1 : (k : Int) < (a.buf.length : Int) := by omega
     have z2 : (k : Int) < (b.buf.length : Int) := by have := HLEN2.out; omega
     obtain ⟨p1, q1, u1, rfl, x1, y1⟩ := HRA2.out k hlt
     obtain ⟨p2, q2, u2, rfl, x2, y2⟩ := HRB2.out k (by have := HLEN2.out; omega)
     have x1 := bkeep ST.out.below x1
     have x2 := bkeep ST.out.below x2
     have HC := Lib.hid (fun (s : Sub wr) => sameE_ok u1 u2 (a.buf.getD k []) (b.buf.getD k []) s.1 (y1.below (ST.out.below.trans (s.2.mono ST.out.below.size))) (y2.below (ST.out.below.trans (s.2.mono ST.out.below.size))) (HLA2.out k hlt))
     have HN := Lib.hid (HNE2.out k)
     have HI2 : Hid (a.buf.getD k [] = b.buf.getD k [] → ∀ j, j < k + 1 → a.buf.getD j [] = b.buf.getD j []) := Lib.hid (fun h j hj => by
      by_cases e : j = k
      ·rw [e]; exact h
      ·exact HI.out j (by omega))
     obtain ⟨e1a, e1c, rfl, -⟩ := y1
     obtain ⟨e2a, e2c, rfl, -⟩ := y2
     clear HNE2
     generalize a.buf.getD k [] = x at *
     generalize b.buf.getD k [] = y at *
     have f1 : ∀ s : Sub wr, s.1.cell? ⟨w.heap.size, 3, none⟩ = some (.slice (some ⟨p1, q1, none⟩) a.buf.length bac) := fun s => s.cell l1
     have f2 : ∀ s : Sub wr, s.1.cell? ⟨w.heap.size + 1, 3, none⟩ = some (.slice (some ⟨p2, q2, none⟩) b.buf.length bbc) := fun s => s.cell l2
     have f3 : ∀ s : Sub wr, s.1.cell? ⟨p1, q1 + k, none⟩ = some (.slice e1a x.length e1c) := fun s => s.cell x1
     have f4 : ∀ s : Sub wr, s.1.cell? ⟨p2, q2 + k, none⟩ = some (.slice e2a y.length e2c) := fun s => s.cell x2
     by_cases hxy : x = y
     ·have HI3 := Lib.hid (HI2.out hxy)
      rw [decide_eq_true hxy] at HC
      clear HI2 HN hxy
      go_wp2_with fail
      refine region_below (by kernel_rfl) (by kernel_rfl) ?_
      repeat (go_big_quiet_step ((go_at_call 85; exact Calls.sub_of (HC.out _))))
      refine wpQuiet_nil ?_
      intro w6 hb6
      have HB6 := Lib.hid (HBW.out.trans (hb6.mono HBW.out.size))
      clear hb6
      go_wp2_with fail
      go_roundg (a.buf.length - (k + 1))
      case measure => omega
      case rel => exact ⟨k + 1, by omega, by simp, HI3, HB6⟩
     ·have E := Lib.hid (HN.out hxy)
      rw [decide_eq_false hxy] at HC
      clear HI2 HN hxy
      go_wp2_with fail
      refine region_below (by kernel_rfl) (by kernel_rfl) ?_
      repeat (go_big_quiet_step ((go_at_call 85; exact Calls.sub_of (HC.out _))))
      refine wpQuiet_nil ?_
      intro w6 hb6
      have S6 := Lib.hid (ST.out.more hb6)
      clear hb6
      go_wp2_with fail
      go_ret
      exact ⟨by rw [E.out]; rfl, S6.out.below⟩
    ·have hkk : k = a.buf.length := by omega
     subst hkk
     have HALL2 := Lib.hid (fun j (hj : j < a.buf.length) => HI.out j (by omega))
     have E := Lib.hid (HYES.out HALL.out (fun j hj => HALL2.out j hj))
     go_wp2_with fail
     go_ret
     exact ⟨by rw [E.out]; rfl, ST.out.below⟩
end Go.Proofs.Ytlhpjfnfemebdaa
namespace Go.Proofs.Ytlhpjfnfemebdaa
open Go.RowKit
theorem rapp_step {w1 wr : World} {v : Value} {l : List Ed} (hb : Below w1.heap.size w1 wr) {n : Nat} (ho : wr.ownsRow w1.heap.size 65 3 v n (edCells l)) {o : Obj} {w4 : World} (hg : ((wr.alloc o).drew).grownBy w4 v.ownBlock) : Below w1.heap.size w1 w4 :=
 ((hb.alloc hb.size o).drew).grown hg (hb.alloc hb.size o).size (fun k hk => (ho.lt k hk).1)
theorem rown_next {w : World} {B : Nat} {v : Value} {l l' : List Ed} {e : Ed} (hX : l' = l ++ [e]) {n : Nat} (h : w.ownsRow B 65 3 v (n + 1) (edCells l ++ [.int .i64 e.1, .int .i64 e.2.1, .int .i64 e.2.2])) : w.ownsRow B 65 3 v (n + 1) (edCells l') := by
 subst hX
 rw [edCells_append]
 simpa [edCells] using h
end Go.Proofs.Ytlhpjfnfemebdaa
namespace Go.Proofs.Ytlhpjfnfemebdaa
open Go.RowKit
def EdgesOwn (w : World) (l : List Ed) (e : Ending) (w' : World) : Prop := ∃ v, e = .returned v ∧ w'.ownsRow w.heap.size 65 3 v l.length (edCells l) ∧ Below w.heap.size w w'
theorem EdgesOwn.back {w : World} {l : List Ed} {e : Ending} {w' : World} (h : EdgesOwn w l e w') : EdgesBack w l e w' := let ⟨v, h1, h2, h3⟩ := h; ⟨v, h1, ownsRow_edges h2, h3⟩
theorem ownsRow_base {w : World} {b b' : Nat} {e : TypeId} {size : Nat} {v : Value} {n : Nat} {xs : List Value} (h : w.ownsRow b e size v n xs) (hb : b' ≤ b) : w.ownsRow b' e size v n xs := by
 refine ⟨h.1, ?_⟩
 rcases h.2 with hn | ⟨g, cap, cur, rfl, hg, r⟩
 ·exact .inl hn
 ·exact .inr ⟨g, cap, cur, rfl, Nat.le_trans hb hg, r⟩
theorem edgesOwn_nil (w w' : World) : w'.ownsRow w.heap.size 65 3 (.slice none 0 0) 0 (edCells []) := ⟨rfl, .inl ⟨rfl, rfl⟩⟩
set_option maxRecDepth 100000 in
set_option maxHeartbeats 4000000 in
theorem rall_own (v : Value) (g : Gr) (w : World) (h : GraphAt w v g) : Calls Try.prog 30 #[v] w (EdgesOwn w (allL g)) := by
 have h4 := h.sS
 have h6 := h.sT
 obtain ⟨sa, aa, ta, sc, ac, tc, rfl, hv⟩ := h.var
 have hb := balloc w (.cells #[.slice sa g.S.length sc, .slice aa g.A.length ac, .slice ta g.T.length tc] 30)
 have HN := Lib.hid (rright_ok _ g _ (h.below hb))
 cases hh : rightB g
 ·rw [allL_not hh]
  rw [hh] at HN
  have HB := Lib.hid hb
  clear h hv hb hh
  go_enter Try.func30, Try.ntmps30
  go_wp2_with (first
   | (go_at_call 50; refine HN.out.mono ?_; rintro e w1 ⟨rfl, hb1⟩; have HB1 := Lib.hid (HB.out.trans (hb1.mono HB.out.size)); clear hb1))
  go_ret
  exact ⟨_, rfl, edgesOwn_nil _ _, HB1.out⟩
 ·have hR := (rightB_iff g).1 hh
  rw [allL_right hR]
  rw [hh] at HN
  obtain ⟨i0, hi0, hz0, hz1, hz2⟩ := info_parts Try.info65
  have hne := hR.ne
  obtain ⟨n, hn⟩ : ∃ n : Nat, g.S.length = n + 1 := ⟨g.S.length - 1, by omega⟩
  have Hn := Lib.hid hn
  have hnl : n + 1 ≤ g.S.length := by omega
  have hnu : g.S.length ≤ n + 1 := by omega
  have hst0 : st g 0 = 0 := by unfold st; rw [hR.first]; rfl
  have hsp : ∀ i, i < g.S.length → (span g 0 i).length = st g i := fun i hi => by rw [span_len hR 0 i (by omega), hst0, Nat.zero_add]; rfl
  have HSP := Lib.hid hsp
  have HST := Lib.hid hst0
  have hn1 : g.S.length - 1 = n := by omega
  rw [hn1]
  have c0 := hv.c0
  have HB := Lib.hid hb
  have HR := Lib.hid hR
  have HV := Lib.hid hv
  clear h hv hb hR hn hn1 hsp hh hst0
  go_enter Try.func30, Try.ntmps30
  go_wp2_with (first
   | (go_at_call 50; refine HN.out.mono ?_; rintro e w1 ⟨rfl, hb1⟩; have x0 := bkeep hb1 c0; have HV1 := Lib.hid (HV.out.below hb1); have HB1 := Lib.hid (HB.out.trans (hb1.mono HB.out.size)); clear hb1 c0))
  go_loopg [3, 4] n (fun fu v c wr => ∃ i : Nat, i + fu = n ∧ c = .int .i64 i ∧ wr.ownsRow w1.heap.size 65 3 v (st g i) (edCells (span g 0 i)) ∧ Below w1.heap.size w1 wr)
  case atStart => exact ⟨0, by omega, rfl, by rw [HST.out]; exact ⟨rfl, .inl ⟨rfl, rfl⟩⟩, Below.refl _ _⟩
  case round =>
   obtain ⟨i, hi, rfl, ho, hb⟩ := hrel
   have z0 := bkeep hb x0
   by_cases hlt : i < n
   ·obtain ⟨b, off, rfl, s0⟩ := HV1.out.hs i (by omega)
    rw [HR.out.st (by omega)] at s0
    have s1 := bkeep hb s0
    have b1 : (i : Int) + 1 < (g.S.length : Int) := by omega
    have b2 : (i : Int) < (g.S.length : Int) := by omega
    have HO := Lib.hid ho
    have HBB := Lib.hid hb
    clear ho hb s0
    go_wp2_with fail
    clear b1 b2
    obtain ⟨wr1, rfl⟩ : ∃ z : World, z = wr := ⟨_, rfl⟩
    obtain ⟨gk', rfl⟩ : ∃ z : Nat, z = gk := ⟨_, rfl⟩
    have hsl := HR.out.stLe (i := i) (j := i + 1) (by omega) (by omega)
    have hst := HR.out.stTop (i := i + 1) (by omega)
    obtain ⟨len, hlen⟩ : ∃ m : Nat, st g (i + 1) = st g i + m := ⟨st g (i + 1) - st g i, by omega⟩
    have HL := Lib.hid hlen
    have hl2 : st g i + len ≤ g.T.length := by omega
    have hi1 : i + 1 < g.S.length := by omega
    clear hlen hsl hst
    go_loopg [3, 5] len (fun fu v c wr => ∃ r : Nat, r + fu = len ∧ c = .int .i64 (st g i + r : Nat) ∧ wr.ownsRow w1.heap.size 65 3 v (st g i + r) (edCells (span g 0 i ++ edsN g i r)) ∧ Below w1.heap.size w1 wr)
    case atStart => exact ⟨0, by omega, rfl, by simpa [edsN] using HO.out, HBB.out⟩
    case round =>
     clear HO HBB z0 s1
     obtain ⟨r, hr, rfl, ho, hb⟩ := hrel
     have z0 := bkeep hb x0
     obtain ⟨b', off', e, s0⟩ := HV1.out.hs (i + 1) hi1
     cases e
     rw [HR.out.st hi1, HL.out] at s0
     have s1 := bkeep hb s0
     have e1 : IntKind.i64.wrap ((i : Int) + 1) = ((i + 1 : Nat) : Int) := by rw [IntWalk.i64_in _ (by omega)]; simp
     have b4 : (i : Int) + 1 < (g.S.length : Int) := by omega
     clear s0
     by_cases hlt2 : r < len
     ·generalize hp : st g i + r = p at *
      have hkT : p < g.T.length := by omega
      have hkA : p < g.A.length := by rw [HR.out.lens]; exact hkT
      have c1 := bkeep hb HV1.out.c1
      have c2 := bkeep hb HV1.out.c2
      obtain ⟨ba, oa, rfl, a0⟩ := HV1.out.ha p hkA
      obtain ⟨bt, ot, rfl, t0⟩ := HV1.out.ht p hkT
      have a1 := bkeep hb a0
      have t1 := bkeep hb t0
      have hnext : span g 0 i ++ edsN g i (r + 1) = (span g 0 i ++ edsN g i r) ++ [edge g i p] := by rw [edsN_succ, hp, List.append_assoc]
      have b1 : (p : Int) < (g.A.length : Int) := by omega
      have b2 : (p : Int) < (g.T.length : Int) := by omega
      have b3 : (p : Int) < (st g i : Int) + (len : Int) := by omega
      have hedge : edge g i p = ((i : Int), g.A.getD p 0, g.T.getD p 0) := rfl
      rw [hedge] at hnext
      generalize g.A.getD p 0 = xa at *
      generalize g.T.getD p 0 = xt at *
      have HO := Lib.hid ho
      have HBB := Lib.hid hb
      have HP := Lib.hid hp
      have HX := Lib.hid hnext
      have hsz := hb.size
      have M1 : Hid (p + 1 ≤ maxLen) := Lib.hid (by unfold maxLen; omega)
      have M2 : Hid ((p + 1) * 24 ≤ 140737488355328) := Lib.hid (by omega)
      clear ho hb hp hnext hedge a0 t0
      go_wp2_with fail
      go_region_law (refine step_append_lies ((wr.alloc (.cells #[.int .i64 i, .int .i64 xa, .int .i64 xt] 65)).drew) rfl (.tmp 32) (.tmp 45) 62 rfl w1.heap.size 65 i0 (.agg #[.int .i64 0, .int .i64 0, .int .i64 0]) 3 24 Try.underlying62 hi0 hz0 hz1 hz2 rfl (by decide) u3 p (edCells (span g 0 i ++ edsN g i r)) (by simp [Act.eval]) (HO.out.alloc _) ⟨wr.heap.size, 0, none⟩ 1 1 [.int .i64 i, .int .i64 xa, .int .i64 xt] (by simp [Act.eval]) rfl (World.news_of_block (heap_alloc_new wr _)) (by simp [Value.oneCell']) Nat.one_pos M1.out M2.out (HBB.out.alloc HBB.out.size _).size (wr.heap.size + 1) (by simp) ?_; intro g2 cap2 w4 hown2 hgr2 hor2 hlt2; have HB4 := Lib.hid (rapp_step HBB.out HO.out hgr2); have HO4 := Lib.hid hown2; clear hgr2 hown2)
      clear e1
      all_goals go_wp2_with fail
      all_goals go_roundg (gk - 1)
      all_goals first
       | omega
       | exact ⟨r + 1, by omega, by have := HP.out; simp; omega, by have e := HP.out; have q := rown_next HX.out HO4.out; rw [show st g i + (r + 1) = p + 1 by omega]; exact q, HB4.out⟩
     ·obtain rfl : gk = 0 := by omega
      obtain rfl : r = len := by omega
      have hnx : span g 0 i ++ edsN g i r = span g 0 (i + 1) := by
       rw [span_succ, eds, Nat.zero_add]
       have : st g (i + 1) - st g i = r := by have := HL.out; omega
       rw [this]
      rw [hnx, ← HL.out] at ho
      have HO := Lib.hid ho
      have HBB := Lib.hid hb
      clear ho hb hnx
      go_wp2_with fail
      go_roundg (gk' - 1)
      case measure => omega
      case rel => exact ⟨i + 1, by omega, by simp, HO.out, HBB.out⟩
   ·obtain rfl : gk = 0 := by omega
    obtain rfl : i = n := by omega
    have b1 : ¬ (i : Int) + 1 < (g.S.length : Int) := by omega
    have Q := Lib.hid (And.intro (show wr.ownsRow w.heap.size 65 3 _ (span g 0 i).length (edCells (span g 0 i)) by rw [HSP.out i (by omega)]; exact ownsRow_base ho HB1.out.size) hb)
    clear ho hb
    go_wp2_with fail
    go_ret
    exact ⟨_, rfl, Q.out.1, HB1.out.trans (Q.out.2.mono HB1.out.size)⟩
theorem rall_ok (v : Value) (g : Gr) (w : World) (h : GraphAt w v g) : Calls Try.prog 30 #[v] w (EdgesBack w (allL g)) := (rall_own v g w h).mono fun _ _ h => h.back
end Go.Proofs.Ytlhpjfnfemebdaa
namespace Go.Proofs.Ytlhpjfnfemebdaa
open Go.RowKit
def lateA (m n x : Nat) : Array Bool := (headA m n).setIfInBounds x false
def sinkX (md : Region.Mode) (ops : Array Oper) (n x : Nat) : Bool := (List.range n).all (fun i => i == x || waits md ops n i) && (List.range ops.size).all (fun j => decide (j ≤ n) || waits md ops j (j - 1))
section
variable {P : Program} {ops : Array Oper} {Q : Exit → Act → World → Prop} {md : Region.Mode}
theorem waits_not_ready {listed : Array Bool} {j i : Nat} (hw : waits md ops j i = true) (hi : listed.getD i true = false) : j ∉ Region.ready md ops listed := fun hj => by
 obtain ⟨-, o, ho, hall⟩ := mem_ready.1 hj
 unfold waits at hw
 simp only [ho, Option.map_some, Option.getD_some, Array.any_eq_true', Bool.and_eq_true, beq_iff_eq] at hw
 obtain ⟨e, he, hbd, rfl⟩ := hw
 have := hall e he hbd
 rw [getD_both hi] at this
 cases this
theorem late_eq {n x : Nat} {listed : Array Bool} (inv : HeadInv md ops n listed) (hn : n ≤ ops.size) (hx : x < n) (hall : ∀ j, j < n → j ≠ x → listed.getD j true = true) (hxf : listed.getD x true = false) : listed = lateA ops.size n x := by
 have hs := inv.size
 refine Array.ext (by simp [lateA, headA]; omega) fun j h1 h2 => ?_
 have e1 : listed.getD j true = listed[j] := by simp [h1]
 by_cases hj : j < n
 ·by_cases e : j = x
  ·subst e
   rw [e1] at hxf
   rw [hxf]
   simp [lateA]
  ·have := hall j hj e
   rw [e1] at this
   rw [this]
   simp [lateA, headA, hj, Ne.symm e]
 ·have := inv.tail j (by omega) (by omega)
  rw [e1] at this
  rw [this]
  simp [lateA, headA, List.getElem_append, hj, show x ≠ j by omega]
theorem unl_late {m n x : Nat} (hx : x < n) (_hn : n ≤ m) : unl (lateA m n x) = m - n + 1 := by
 unfold lateA unl
 have h1 := unl_set ((headA m n).setIfInBounds x false).toList x (by simp [headA]; omega) (by
  have hxl : x < (headA m n).toList.length := by simp [headA]; omega
  rw [Array.toList_setIfInBounds, List.getD_eq_getElem?_getD, List.getElem?_set_self hxl]
  rfl)
 have e : (((headA m n).setIfInBounds x false).toList.set x true) = (headA m n).toList := by
  apply List.ext_getElem
  ·simp [headA]
  ·intro i h1 h2
   simp only [Array.toList_setIfInBounds, List.set_set, List.getElem_set]
   split
   ·rename_i e; subst e; simp [headA, hx]
   ·rfl
 rw [e] at h1
 have h2 : (headA m n).toList.countP (fun b => !b) = m - n := unl_head
 omega
theorem wpAny_rel_late (n x : Nat) (mk : (Nat → Value) → Act) (d : Nat → Nat) (w0 : World) (R : Nat → Value → World → Prop)
  (hs : sinkX md ops n x = true) (hx : x < n) (hn : n < ops.size) (hseq : Region.seqB md ops (ops.size - n) n (headA ops.size n) = true)
  (hR : ∀ i u w w', Below w.heap.size w w' → R i u w → R i u w')
  (hlex : lexDeps md ops = true) (hinj : ∀ i j, i < n → j < n → d i = d j → i = j)
  (hput : ∀ j, j < n → ∀ f v, (mk f).put (some (d j)) v = mk (upd f (d j) v))
  (hstep : ∀ j o, j < n → ops[j]? = some o → StepOk P ops Q md mk d w0 R j o)
  (hend : ∀ f w, Below w0.heap.size w0 w → (∀ j, j < n → R j (f (d j)) w) → wpList P ops Q (ops.toList.drop n) (mk f) w)
  (hlate : ∀ f w, Below w0.heap.size w0 w → (∀ j, j < n → j ≠ x → R j (f (d j)) w) → wpAny P md ops Q (ops.size - n + 1) (lateA ops.size n x) (mk f) w) :
  ∀ (fuel : Nat) (listed : Array Bool) (f : Nat → Value) (w : World), HeadInv md ops n listed → fuel = unl listed → Below w0.heap.size w0 w →
   (∀ j, j < n → listed.getD j true = true → R j (f (d j)) w) → wpAny P md ops Q fuel listed (mk f) w := by
 have hfin : ∀ (fuel : Nat) (listed : Array Bool) (f : Nat → Value) (w : World), HeadInv md ops n listed → fuel = unl listed → Below w0.heap.size w0 w →
   (∀ j, j < n → listed.getD j true = true → R j (f (d j)) w) → (∀ j, j < n → listed.getD j true = true) → wpAny P md ops Q fuel listed (mk f) w := by
  intro fuel listed f w inv hf hb hr hall
  have e := head_eq inv (Nat.le_of_lt hn) hall
  have hl : (ops.toList.drop n).length = ops.size - n := by simp
  have hfu : fuel = (ops.toList.drop n).length := by rw [hf, e, unl_head, hl]
  subst hfu
  refine wpAny_of_seq (ops.toList.drop n) n listed (mk f) w (fun j => by simp [List.getElem?_drop]) (by rw [hl, e]; exact hseq) (hend f w hb fun j hj => hr j hj (hall j hj))
 intro fuel
 induction fuel with
 | zero =>
  intro listed f w inv hf hb hr
  refine hfin 0 listed f w inv hf hb hr fun j hj => ?_
  cases hl : listed.getD j true with
  | true => rfl
  | false =>
   have hjs : j < listed.size := by rw [inv.size]; omega
   have hpos : 0 < listed.toList.countP (fun b => !b) := by
    rw [List.countP_pos_iff]
    refine ⟨listed[j], by simp, ?_⟩
    simpa [hjs] using hl
   unfold unl at hf
   omega
 | succ fuel ih =>
  intro listed f w inv hf hb hr
  by_cases hall : ∀ j, j < n → listed.getD j true = true
  ·exact hfin (fuel + 1) listed f w inv hf hb hr hall
  ·by_cases hlx : ∀ j, j < n → j ≠ x → listed.getD j true = true
   ·have hxf : listed.getD x true = false := by
     cases hl : listed.getD x true with
     | false => rfl
     | true => exact absurd (fun j hj => by by_cases e : j = x; rw [e]; exact hl; exact hlx j hj e) hall
    have e := late_eq inv (Nat.le_of_lt hn) hx hlx hxf
    have hfe : fuel + 1 = ops.size - n + 1 := by rw [hf, e, unl_late hx (Nat.le_of_lt hn)]
    rw [hfe, e]
    exact hlate f w hb (fun j hj hjx => hr j hj (hlx j hj hjx))
   obtain ⟨j0, hj0, hjx, hl0⟩ : ∃ j, j < n ∧ j ≠ x ∧ listed.getD j true = false := by
    refine Classical.byContradiction fun hne => hlx fun j hj hjx => ?_
    cases hl : listed.getD j true with
    | true => rfl
    | false => exact absurd ⟨j, hj, hjx, hl⟩ hne
   refine ⟨fun h0 => ?_, fun i hi => ?_⟩
   ·exfalso
    have key : ∀ j, j < n → listed.getD j true = true := by
     intro j
     induction j using Nat.strongRecOn with
     | _ j ih =>
      intro hj
      cases hl : listed.getD j true with
      | true => rfl
      | false =>
       exfalso
       have hjs : j < ops.size := by omega
       have hm : j ∈ Region.ready md ops listed := by
        rw [mem_ready]
        refine ⟨hl, ops[j], by simp [hjs], fun e he hbd => ?_⟩
        have hle : e.on < j := by
         unfold lexDeps at hlex
         have := List.all_eq_true.1 hlex j (List.mem_range.2 hjs)
         simp only [Array.getElem?_eq_getElem hjs, Option.map_some, Option.getD_some, Array.all_eq_true'] at this
         have := this e he
         simpa [hbd] using this
        have h1 := ih e.on hle (by omega)
        have hsz : e.on < listed.size := by rw [inv.size]; omega
        simpa [hsz] using h1
       rw [h0] at hm
       cases hm
    exact hall key
   ·have hin : i < n := by
     rcases Nat.lt_or_ge i n with h | h
     ·exact h
     ·exfalso
      unfold sinkX at hs
      rw [Bool.and_eq_true] at hs
      rcases Nat.eq_or_lt_of_le h with e | e
      ·have hw := List.all_eq_true.1 hs.1 j0 (List.mem_range.2 hj0)
       rw [Bool.or_eq_true, beq_iff_eq] at hw
       exact waits_not_ready (hw.resolve_left hjx) hl0 (e ▸ hi)
      ·have his : i < ops.size := (Array.getElem?_eq_some_iff.1 (mem_ready.1 hi).2.choose_spec.1).1
       have hw := List.all_eq_true.1 hs.2 i (List.mem_range.2 his)
       rw [Bool.or_eq_true, decide_eq_true_eq] at hw
       exact waits_not_ready (hw.resolve_left (by omega)) (inv.tail (i - 1) (by omega) (by omega)) hi
    obtain ⟨hl, o, ho, hall2⟩ := mem_ready.1 hi
    have his : i < ops.size := (Array.getElem?_eq_some_iff.1 ho).1
    have hil : i < listed.size := by rw [inv.size]; omega
    have hdeps : ∀ k, waits md ops i k = true → R k (f (d k)) w := by
     intro k hk
     unfold waits at hk
     simp only [ho, Option.map_some, Option.getD_some, Array.any_eq_true', Bool.and_eq_true, beq_iff_eq] at hk
     obtain ⟨e, he, hbd, rfl⟩ := hk
     have hlf := hall2 e he hbd
     have hle : e.on < i := by
      unfold lexDeps at hlex
      have := List.all_eq_true.1 hlex i (List.mem_range.2 his)
      simp only [ho, Option.map_some, Option.getD_some, Array.all_eq_true'] at this
      have := this e he
      simpa [hbd] using this
     have hlt : e.on < listed.size := by omega
     exact hr e.on (by omega) (by simpa [hlt] using hlf)
    have hk := hstep i o hin ho f w hb hdeps (wpAny P md ops Q fuel (listed.setIfInBounds i true)) (by
     intro v w' hb' hv
     rw [hput i hin]
     refine ih _ _ _ (inv.set hi hin) ?_ (hb.trans (hb'.mono hb.size)) ?_
     ·unfold unl at hf ⊢
      have := unl_set listed.toList i (by simpa using hil) (by simpa [hil] using hl)
      rw [Array.toList_setIfInBounds]
      omega
     ·intro j hj hlj
      by_cases e : j = i
      ·subst e; rw [upd_same]; exact hv
      ·rw [upd_other _ _ _ _ (fun e2 => e (hinj j i hj hin e2))]
       refine hR j _ w w' hb' (hr j hj ?_)
       rw [getD_set_ne true (fun e2 => e e2.symm)] at hlj
       exact hlj)
    unfold wpOp
    simp only [ho]
    split
    ·rename_i hw; rw [if_pos hw] at hk; exact .inl hk
    ·rename_i hw; rw [if_neg hw] at hk; exact hk
theorem region_rel_late {id : Nat} {a : Act} {w : World} {l : List Oper} (n x : Nat) (f0 : Nat → Value) (mk : (Nat → Value) → Act) (d : Nat → Nat) (R : Nat → Value → World → Prop) (ha : a = mk f0)
  (hm : P.follows .mixedOrders = true) (hs : sinkX .any l.toArray n x = true) (hx : x < n) (hn : n < l.length) (hseq : Region.seqB .any l.toArray (l.length - n) n (headA l.length n) = true)
  (hR : ∀ i u w w', Below w.heap.size w w' → R i u w → R i u w')
  (hlex : lexDeps .any l.toArray = true) (hinj : injB n d = true)
  (hput : ∀ j, j < n → ∀ f v, (mk f).put (some (d j)) v = mk (upd f (d j) v))
  (hstep : StepAll P l.toArray Q .any mk d w.drew R 0 (l.take n))
  (hend : ∀ f w', Below w.heap.size w w' → (∀ j, j < n → R j (f (d j)) w') → wpList P l.toArray Q (l.drop n) (mk f) w')
  (hlate : ∀ f w', Below w.heap.size w w' → (∀ j, j < n → j ≠ x → R j (f (d j)) w') → wpAny P .any l.toArray Q (l.length - n + 1) (lateA l.length n x) (mk f) w') : (Code.region id l.toArray true).wp P Q a w := by
 subst ha
 refine wp_region_any hm ?_
 have hb0 : Below w.drew.heap.size w.drew w.drew := Below.refl _ _
 have inv0 : HeadInv .any l.toArray n (Array.replicate l.toArray.size false) :=
  ⟨by simp, fun j oj _ hl => (by rw [getD_replicate_false] at hl; cases hl), fun t _ ht => getD_in (by simpa using ht) (getD_replicate_false _ _)⟩
 refine wpAny_rel_late n x mk d w.drew R hs hx (by simpa using hn) (by simpa using hseq) hR hlex ?_ hput ?_ ?_ ?_ _ _ f0 w.drew inv0 ?_ hb0 ?_
 ·intro i j hi hj e
  have h1 := List.all_eq_true.1 hinj i (List.mem_range.2 hi)
  have h2 := List.all_eq_true.1 h1 j (List.mem_range.2 hj)
  simpa [e] using h2
 ·intro j o hj ho
  have := hstep.at (l.take n) 0 j o (by rw [List.getElem?_take, if_pos hj]; simpa using ho)
  rwa [Nat.zero_add] at this
 ·intro f w' hb h
  exact hend f w' ⟨hb.os, hb.tape, hb.output, hb.size, hb.block⟩ h
 ·intro f w' hb h
  have := hlate f w' ⟨hb.os, hb.tape, hb.output, hb.size, hb.block⟩ h
  simpa using this
 ·unfold unl; simp [List.countP_replicate]
 ·intro j hj hl
  have hjl : j < l.length := by omega
  simp [hjl] at hl
theorem region_rel_late2 {id : Nat} {a : Act} {w : World} {l : List Oper} (n x : Nat) (f0 : Nat → Value) (mk mkE : (Nat → Value) → Act) (d : Nat → Nat) (R : Nat → Value → World → Prop) (W : (Nat → Value) → World → World → Prop) (ha : a = mk f0)
  (hm : P.follows .mixedOrders = true) (hs : sinkX .any l.toArray n x = true) (hx : x < n) (hn : n < l.length) (hseq : Region.seqB .any l.toArray (l.length - n) n (headA l.length n) = true)
  (hR : ∀ i u w w', Below w.heap.size w w' → R i u w → R i u w')
  (hlex : lexDeps .any l.toArray = true) (hinj : injB n d = true)
  (hput : ∀ j, j < n → ∀ f v, (mk f).put (some (d j)) v = mk (upd f (d j) v))
  (hstep : StepAll P l.toArray Q .any mk d w.drew R 0 (l.take n))
  (htail : ∀ (Q : Exit → Act → World → Prop) f w', Below w.heap.size w w' → (∀ j, j < n → R j (f (d j)) w') → (∀ w'', W f w' w'' → Q .normal (mkE f) w'') → wpList P l.toArray Q (l.drop n) (mk f) w')
  (hlate : ∀ (Q : Exit → Act → World → Prop) f w', Below w.heap.size w w' → (∀ j, j < n → j ≠ x → R j (f (d j)) w') → (∀ v w'', R x v w' → W (upd f (d x) v) w' w'' → Q .normal (mkE (upd f (d x) v)) w'') → wpAny P .any l.toArray Q (l.length - n + 1) (lateA l.length n x) (mk f) w')
  (hfin : ∀ f w' w'', Below w.heap.size w w' → (∀ j, j < n → R j (f (d j)) w') → W f w' w'' → Q .normal (mkE f) w'') : (Code.region id l.toArray true).wp P Q a w := by
 have hinj' : ∀ i j, i < n → j < n → d i = d j → i = j := fun i j hi hj e => by
  have h1 := List.all_eq_true.1 hinj i (List.mem_range.2 hi)
  have h2 := List.all_eq_true.1 h1 j (List.mem_range.2 hj)
  simpa [e] using h2
 refine region_rel_late n x f0 mk d R ha hm hs hx hn hseq hR hlex hinj hput hstep (fun f w' hb h => htail Q f w' hb h fun w'' hw => hfin f w' w'' hb h hw) (fun f w' hb h => hlate Q f w' hb h fun v w'' hv hw => hfin _ w' w'' hb (fun j hj => ?_) hw)
 by_cases e : j = x
 ·subst e; rw [upd_same]; exact hv
 ·rw [upd_other _ _ _ _ (fun e2 => e (hinj' j x hj hx e2))]
  exact h j hj e
end
end Go.Proofs.Ytlhpjfnfemebdaa
