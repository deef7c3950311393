/-
  Whether a thread can go on.
-/
import Derived.Test.YtlhpjfnfemebdaaJMachX
namespace Go.Proofs.Ytlhpjfnfemebdaa
open Go.RowKit
def insT (u : PUn) (c : Cf) (t : Nat) : PIn := (u.code.getD t []).getD (c.pc.getD t 0).toNat pIn0
def enT (u : PUn) (c : Cf) (model room : Int) (t : Nat) : Bool :=
 if (insT u c t).op = 22 then false else if (insT u c t).op = 4 then decide (model = 1) || roomE (c.buf.getD t []) model room (insT u c t).loc else if (insT u c t).op = 8 ∨ (insT u c t).op = 5 ∨ (insT u c t).op = 6 ∨ (insT u c t).op = 7 then (c.buf.getD t []).length == 0
 else if (insT u c t).op = 9 then (readsC c t (insT u c t).loc.toNat == valI u.mod (c.regs.getD t []) (insT u c t).e) != (insT u c t).ne else true
theorem ins_ok {u : PUn} (h : rightU u = true) {t : Nat} (ht : t < u.regs.length) {i : Nat} (hi : i < (u.code.getD t []).length) : ((u.code.getD t []).getD i pIn0).op = 22 ∨ (oneB ((u.code.getD t []).getD i pIn0) (u.regs.getD t 0) (u.init.length : Int) ((u.code.getD t []).length : Int) = true ∧ i + 1 < (u.code.getD t []).length) := by
 obtain ⟨-, -, -, -, -, h6⟩ := rightU_iff.1 h
 obtain ⟨-, ⟨h1, -⟩, hd, ho⟩ := rowU_iff.1 (h6 t ht)
 by_cases e : i = (u.code.getD t []).length - 1
 ·left
  rw [← e] at hd
  unfold doneB at hd
  simp only [Bool.and_eq_true, beq_iff_eq] at hd
  exact hd.1.1.1.1.1.1
 ·exact .inr ⟨ho i (by omega), by omega⟩
set_option maxRecDepth 100000 in
set_option maxHeartbeats 32000000 in
theorem en10_ok (uv cv : Value) (u : PUn) (c : Cf) (model room : Int) (t : Nat) (w : World) (hu : UnV w uv u) (hc : CfV w cv c) (hR : rightU u = true) (hL : UnL u) (hk : CfOk u 1000 c) (ht : t < u.regs.length) :
  Calls Try.prog 40 #[uv, cv, .int .i64 model, .int .i64 room, .int .i64 (t : Nat)] w fun r w' => r = .returned (.bool (enT u c model room t)) ∧ Below w.heap.size w w' := by
 obtain ⟨hp0, hp1⟩ := hk.pc t ht
 obtain ⟨⟨hm1, hm2⟩, -, -, -, hcl, -⟩ := rightU_iff.1 hR
 obtain ⟨i, hi⟩ : ∃ i : Nat, c.pc.getD t 0 = (i : Int) := ⟨(c.pc.getD t 0).toNat, by omega⟩
 have hil : i < (u.code.getD t []).length := by omega
 have hins := ins_ok hR ht hil
 have HX : insT u c t = (u.code.getD t []).getD i pIn0 := by unfold insT; rw [hi, Int.toNat_natCast]
 have hrow := hL.row _ (row_mem (u := u) (t := t) (by omega))
 have hxl := hrow.2 _ (in_mem hil)
 obtain ⟨ia, ic, ga, gc, ca, cc, rfl, -, -, hcode⟩ := hu.var
 obtain ⟨pa, pc, ra, rc, ma, mc, ba, bc, rfl, h1, h2, h3, h4⟩ := hc.var
 have HRD := Lib.hid (fun (loc : Nat) (hloc : loc < c.mem.length) (w' : World) (hb : Below w.heap.size w w') => reads_ok _ c t loc w' (hc.below hb) (by rw [hk.nbuf]; exact ht) hloc (hk.blen t ht))
 have HVL := Lib.hid (fun (ev : Value) (l : List Ed) (hl : l.length ≤ 1000000) (w' : World) (hb : Below w.heap.size w w') (he : EdgesAt w' ev l) => val10_ok _ _ ev u c t l w' (hu.below hb) (hc.below hb) he (by rw [hk.nregs]; exact ht) hl ⟨hm1, hm2⟩ (hk.reg t ht) (by have := hk.rlen t ht; obtain ⟨-, -, -, -, -, h6⟩ := rightU_iff.1 hR; have := (rowU_iff.1 (h6 t ht)).1; omega))
 obtain ⟨a1, c1, e1, h1⟩ := h1
 cases e1
 obtain ⟨b1, o1, rfl, x1⟩ := h1 t (by rw [hk.npc]; exact ht)
 obtain ⟨a2, c2, e2, hcode⟩ := hcode
 cases e2
 obtain ⟨b2, o2, u2, rfl, x2, hrw⟩ := hcode t (by omega)
 obtain ⟨a3, c3, rfl, hrw⟩ := hrw
 obtain ⟨b3, o3, rfl, ea, ec, fa, fc, q0, q1, q2, q3, q4, q5, q6, q7, q8⟩ := hrw i hil
 obtain ⟨a4, c4, e4, h4⟩ := h4
 cases e4
 obtain ⟨b4, o4, u4, rfl, x4, hen⟩ := h4 t (by rw [hk.nbuf]; exact ht)
 have HRM := Lib.hid (fun (loc : Int) (w' : World) (hb : Below w.heap.size w w') => room_ok u4 (c.buf.getD t []) model room loc w' (hen.below hb) (by have := hk.blen t ht; omega))
 obtain ⟨a5, c5, rfl, -⟩ := hen
 have S0 := Lib.hid (Bx2.start w #[.int .i64 u.mod, .slice ia u.init.length ic, .slice ga u.regs.length gc, .slice (some ⟨b2, o2, none⟩) u.code.length cc] 25 #[.slice (some ⟨b1, o1, none⟩) c.pc.length pc, .slice ra c.regs.length rc, .slice ma c.mem.length mc, .slice (some ⟨b4, o4, none⟩) c.buf.length bc] 52)
 have z1 : (t : Int) < (c.pc.length : Int) := by rw [hk.npc]; omega
 have z2 : (t : Int) < (u.code.length : Int) := by omega
 have z3 : (i : Int) < ((u.code.getD t []).length : Int) := by omega
 have z4 : (t : Int) < (c.buf.length : Int) := by rw [hk.nbuf]; omega
 have HML := Lib.hid hk.nmem
 rw [hi] at x1
 unfold enT
 rw [HX]
 clear hu hc hcode h1 h2 h3 h4 hk hR hL hp0 hp1 hi HX hrow hrw ht hcl hil
 generalize (u.code.getD t []).length = rl at *
 generalize (u.code.getD t []).getD i pIn0 = x at *
 generalize c.buf.getD t [] = bl at *
 generalize u.regs.getD t 0 = g at *
 generalize c.regs.getD t [] = own at *
 obtain ⟨RES, hRES⟩ : ∃ r, r = (if x.op = 22 then false else if x.op = 4 then decide (model = 1) || roomE bl model room x.loc else if x.op = 8 ∨ x.op = 5 ∨ x.op = 6 ∨ x.op = 7 then bl.length == 0 else if x.op = 9 then (readsC c t x.loc.toNat == valI u.mod own x.e) != x.ne else true) := ⟨_, rfl⟩
 rw [← hRES]
 have F22 : Hid (x.op = 22 → RES = false) := Lib.hid (fun h => by rw [hRES, if_pos h])
 have F4a : Hid (x.op = 4 → model = 1 → RES = true) := Lib.hid (fun h h1 => by rw [hRES, if_neg (by omega), if_pos h, decide_eq_true h1]; rfl)
 have F4b : Hid (x.op = 4 → ¬ model = 1 → RES = roomE bl model room x.loc) := Lib.hid (fun h h1 => by rw [hRES, if_neg (by omega), if_pos h, decide_eq_false h1]; rfl)
 have F8 : Hid (x.op = 8 ∨ x.op = 5 ∨ x.op = 6 ∨ x.op = 7 → RES = (bl.length == 0)) := Lib.hid (fun h => by rw [hRES, if_neg (by omega), if_neg (by omega), if_pos h])
 have F9 : Hid (x.op = 9 → RES = ((readsC c t x.loc.toNat == valI u.mod own x.e) != x.ne)) := Lib.hid (fun h => by rw [hRES, if_neg (by omega), if_neg (by omega), if_neg (by omega), if_pos h])
 have FE : Hid (¬ x.op = 22 → ¬ x.op = 4 → ¬ (x.op = 8 ∨ x.op = 5 ∨ x.op = 6 ∨ x.op = 7) → ¬ x.op = 9 → RES = true) := Lib.hid (fun h1 h2 h3 h4 => by rw [hRES, if_neg h1, if_neg h2, if_neg h3, if_neg h4])
 clear hRES
 generalize hw2 : (w.alloc (.cells #[.int .i64 u.mod, .slice ia u.init.length ic, .slice ga u.regs.length gc, .slice (some ⟨b2, o2, none⟩) u.code.length cc] 25)).alloc (.cells #[.slice (some ⟨b1, o1, none⟩) c.pc.length pc, .slice ra c.regs.length rc, .slice ma c.mem.length mc, .slice (some ⟨b4, o4, none⟩) c.buf.length bc] 52) = w2 at *
 have x1 := bkeep S0.out.below x1
 have x2 := bkeep S0.out.below x2
 have q0 := bkeep S0.out.below q0
 have q1 := bkeep S0.out.below q1
 have q2 := bkeep S0.out.below q2
 have q3 := bkeep S0.out.below q3
 have q4 := bkeep S0.out.below q4
 have q5 := bkeep S0.out.below q5
 have q6 := bkeep S0.out.below q6
 have g0 := cell_of_block S0.out.blk1 3 (.slice (some ⟨b2, o2, none⟩) u.code.length cc) rfl
 have g1 := cell_of_block S0.out.blk2 0 (.slice (some ⟨b1, o1, none⟩) c.pc.length pc) rfl
 have yx1 := bkeep (balloc w2 (.cells #[.int .i64 0, .int .i64 0, .int .i64 0, .slice none 0 0, .slice none 0 0, .bool false, .int .i64 0] 61)) x1
 have yx2 := bkeep (balloc w2 (.cells #[.int .i64 0, .int .i64 0, .int .i64 0, .slice none 0 0, .slice none 0 0, .bool false, .int .i64 0] 61)) x2
 have yq0 := bkeep (balloc w2 (.cells #[.int .i64 0, .int .i64 0, .int .i64 0, .slice none 0 0, .slice none 0 0, .bool false, .int .i64 0] 61)) q0
 have yq1 := bkeep (balloc w2 (.cells #[.int .i64 0, .int .i64 0, .int .i64 0, .slice none 0 0, .slice none 0 0, .bool false, .int .i64 0] 61)) q1
 have yq2 := bkeep (balloc w2 (.cells #[.int .i64 0, .int .i64 0, .int .i64 0, .slice none 0 0, .slice none 0 0, .bool false, .int .i64 0] 61)) q2
 have yq3 := bkeep (balloc w2 (.cells #[.int .i64 0, .int .i64 0, .int .i64 0, .slice none 0 0, .slice none 0 0, .bool false, .int .i64 0] 61)) q3
 have yq4 := bkeep (balloc w2 (.cells #[.int .i64 0, .int .i64 0, .int .i64 0, .slice none 0 0, .slice none 0 0, .bool false, .int .i64 0] 61)) q4
 have yq5 := bkeep (balloc w2 (.cells #[.int .i64 0, .int .i64 0, .int .i64 0, .slice none 0 0, .slice none 0 0, .bool false, .int .i64 0] 61)) q5
 have yq6 := bkeep (balloc w2 (.cells #[.int .i64 0, .int .i64 0, .int .i64 0, .slice none 0 0, .slice none 0 0, .bool false, .int .i64 0] 61)) q6
 have yg0 := bkeep (balloc w2 (.cells #[.int .i64 0, .int .i64 0, .int .i64 0, .slice none 0 0, .slice none 0 0, .bool false, .int .i64 0] 61)) g0
 have yg1 := bkeep (balloc w2 (.cells #[.int .i64 0, .int .i64 0, .int .i64 0, .slice none 0 0, .slice none 0 0, .bool false, .int .i64 0] 61)) g1
 go_enter Try.func40, Try.ntmps40
 go_wp2_with fail
 clear hw2
 go_region
 have kX := heap_alloc_new w2 (.cells #[.int .i64 x.op, .int .i64 x.reg, .int .i64 x.loc, .slice ea x.e.length ec, .slice fa x.f.length fc, .bool x.ne, .int .i64 x.tgt] 61)
 have B3 : Below w2.heap.size w2 ((w2.alloc (.cells #[.int .i64 x.op, .int .i64 x.reg, .int .i64 x.loc, .slice ea x.e.length ec, .slice fa x.f.length fc, .bool x.ne, .int .i64 x.tgt] 61)).drew) := (balloc w2 _).drew
 have S3 := Lib.hid (S0.out.more B3)
 have KX : Hid (BxC w2 ((w2.alloc (.cells #[.int .i64 x.op, .int .i64 x.reg, .int .i64 x.loc, .slice ea x.e.length ec, .slice fa x.f.length fc, .bool x.ne, .int .i64 x.tgt] 61)).drew) #[.int .i64 x.op, .int .i64 x.reg, .int .i64 x.loc, .slice ea x.e.length ec, .slice fa x.f.length fc, .bool x.ne, .int .i64 x.tgt] 61) := Lib.hid ⟨B3, kX⟩
 have Q7 := Lib.hid (q7.below (S0.out.below.trans (B3.mono S0.out.below.size)))
 have x4 := bkeep S3.out.below x4
 clear kX B3 yx1 yx2 yq0 yq1 yq2 yq3 yq4 yq5 yq6 yg0 yg1 x1 x2 q0 q1 q2 q3 q4 q5 q6 g0 g1 q7 q8
 generalize (w2.alloc (.cells #[.int .i64 x.op, .int .i64 x.reg, .int .i64 x.loc, .slice ea x.e.length ec, .slice fa x.f.length fc, .bool x.ne, .int .i64 x.tgt] 61)).drew = w3 at *
 have k0 := cell_of_block KX.out.blk 0 (.int .i64 x.op) rfl
 have k2 := cell_of_block KX.out.blk 2 (.int .i64 x.loc) rfl
 have k3 := cell_of_block KX.out.blk 3 (.slice ea x.e.length ec) rfl
 have k5 := cell_of_block KX.out.blk 5 (.bool x.ne) rfl
 have j0 := cell_of_block S3.out.blk1 0 (.int .i64 u.mod) rfl
 have j1 := cell_of_block S3.out.blk1 1 (.slice ia u.init.length ic) rfl
 have j2 := cell_of_block S3.out.blk1 2 (.slice ga u.regs.length gc) rfl
 have j3 := cell_of_block S3.out.blk1 3 (.slice (some ⟨b2, o2, none⟩) u.code.length cc) rfl
 have l0 := cell_of_block S3.out.blk2 0 (.slice (some ⟨b1, o1, none⟩) c.pc.length pc) rfl
 have l1 := cell_of_block S3.out.blk2 1 (.slice ra c.regs.length rc) rfl
 have l2 := cell_of_block S3.out.blk2 2 (.slice ma c.mem.length mc) rfl
 have l3 := cell_of_block S3.out.blk2 3 (.slice (some ⟨b4, o4, none⟩) c.buf.length bc) rfl
 clear KX
 generalize w2.heap.size = bX at *
 by_cases h22 : x.op = 22
 ·have E := Lib.hid (F22.out h22)
  rw [h22] at k0
  go_wp2_with fail
  go_ret
  exact ⟨by rw [E.out]; rfl, S3.out.below⟩
 have n22 : (x.op == 22) = false := beq_false_of_ne h22
 by_cases h4 : x.op = 4
 ·rw [h4] at k0
  by_cases hm : model = 1
  ·have E := Lib.hid (F4a.out h4 hm)
   subst hm
   go_wp2_with fail
   go_quiet (fail)
   go_wp2_with fail
   go_ret
   exact ⟨by rw [E.out]; rfl, by first | exact S3.out.below.drew | exact bdrewN S3.out.below _⟩
  ·have nm : (model == 1) = false := beq_false_of_ne hm
   have E := Lib.hid (F4b.out h4 hm)
   have HR := Lib.hid (fun (s : Sub w3) => HRM.out x.loc s.1 (S3.out.below.trans (s.2.mono S3.out.below.size)))
   clear F22 F4a F4b F8 F9 FE
   generalize roomE bl model room x.loc = RM at *
   have f0 : ∀ s : Sub w3, s.1.cell? ⟨w.heap.size + 1, 3, none⟩ = some (.slice (some ⟨b4, o4, none⟩) c.buf.length bc) := fun s => s.cell l3
   have f1 : ∀ s : Sub w3, s.1.cell? ⟨b4, o4 + t, none⟩ = some (.slice a5 bl.length c5) := fun s => s.cell x4
   have f2 : ∀ s : Sub w3, s.1.cell? ⟨bX, 2, none⟩ = some (.int .i64 x.loc) := fun s => s.cell k2
   go_wp2_with fail
   refine region_below (by kernel_rfl) (by kernel_rfl) ?_
   repeat (go_big_quiet_step ((go_at_call 64; exact Calls.sub_of (HR.out _))))
   refine wpQuiet_nil ?_
   intro w4 hb4
   have S4 := Lib.hid (S3.out.more hb4)
   clear hb4
   go_wp2_with fail
   go_ret
   exact ⟨by rw [E.out]; rfl, S4.out.below⟩
 have n4 : (x.op == 4) = false := beq_false_of_ne h4
 by_cases h8 : x.op = 8 ∨ x.op = 5 ∨ x.op = 6 ∨ x.op = 7
 ·have E := Lib.hid (F8.out h8)
  have HBL : Hid (((bl.length : Int) == 0) = (bl.length == 0)) := Lib.hid (by cases bl <;> simp <;> omega)
  rcases h8 with h8 | h8 | h8 | h8
  all_goals
   rw [h8] at k0
   go_wp2_with fail
   go_ret
   exact ⟨by rw [E.out, ← HBL.out]; rfl, S3.out.below⟩
 have n8 : (x.op == 8) = false := beq_false_of_ne (fun e => h8 (.inl e))
 have n5 : (x.op == 5) = false := beq_false_of_ne (fun e => h8 (.inr (.inl e)))
 have n6 : (x.op == 6) = false := beq_false_of_ne (fun e => h8 (.inr (.inr (.inl e))))
 have n7 : (x.op == 7) = false := beq_false_of_ne (fun e => h8 (.inr (.inr (.inr e))))
 by_cases h9 : x.op = 9
 ·have E := Lib.hid (F9.out h9)
  rw [h9] at k0
  have hone := (hins.resolve_left h22).1
  have hloc : 0 ≤ x.loc ∧ x.loc < (u.init.length : Int) := by
   unfold oneB at hone
   rw [h9, show hasP 9 108 = true from by decide] at hone
   simp only [Bool.and_eq_true, if_true] at hone
   exact inR_iff.1 hone.1.1.1.1.2
  obtain ⟨q, hq⟩ : ∃ q : Nat, x.loc = (q : Int) := ⟨x.loc.toNat, by omega⟩
  rw [hq, Int.toNat_natCast] at E
  rw [hq] at k2
  have HR1 := Lib.hid (fun (s : Sub w3) => HRD.out q (by have := HML.out; omega) s.1 (S3.out.below.trans (s.2.mono S3.out.below.size)))
  have HV1 := Lib.hid (fun (s : Sub w3) => HVL.out (.slice ea x.e.length ec) x.e (by omega) s.1 (S3.out.below.trans (s.2.mono S3.out.below.size)) (Q7.out.below s.2))
  clear HRD HVL HRM hins hone hloc hq Q7 F22 F4a F4b F8 F9 FE
  generalize readsC c t q = RV at *
  generalize valI u.mod own x.e = VV at *
  have f0 : ∀ s : Sub w3, s.1.cell? ⟨w.heap.size, 0, none⟩ = some (.int .i64 u.mod) := fun s => s.cell j0
  have f1 : ∀ s : Sub w3, s.1.cell? ⟨w.heap.size, 1, none⟩ = some (.slice ia u.init.length ic) := fun s => s.cell j1
  have f2 : ∀ s : Sub w3, s.1.cell? ⟨w.heap.size, 2, none⟩ = some (.slice ga u.regs.length gc) := fun s => s.cell j2
  have f3 : ∀ s : Sub w3, s.1.cell? ⟨w.heap.size, 3, none⟩ = some (.slice (some ⟨b2, o2, none⟩) u.code.length cc) := fun s => s.cell j3
  have e0 : ∀ s : Sub w3, s.1.cell? ⟨w.heap.size + 1, 0, none⟩ = some (.slice (some ⟨b1, o1, none⟩) c.pc.length pc) := fun s => s.cell l0
  have e1 : ∀ s : Sub w3, s.1.cell? ⟨w.heap.size + 1, 1, none⟩ = some (.slice ra c.regs.length rc) := fun s => s.cell l1
  have e2 : ∀ s : Sub w3, s.1.cell? ⟨w.heap.size + 1, 2, none⟩ = some (.slice ma c.mem.length mc) := fun s => s.cell l2
  have e3 : ∀ s : Sub w3, s.1.cell? ⟨w.heap.size + 1, 3, none⟩ = some (.slice (some ⟨b4, o4, none⟩) c.buf.length bc) := fun s => s.cell l3
  have d2 : ∀ s : Sub w3, s.1.cell? ⟨bX, 2, none⟩ = some (.int .i64 (q : Nat)) := fun s => s.cell k2
  have d3 : ∀ s : Sub w3, s.1.cell? ⟨bX, 3, none⟩ = some (.slice ea x.e.length ec) := fun s => s.cell k3
  have d5 : ∀ s : Sub w3, s.1.cell? ⟨bX, 5, none⟩ = some (.bool x.ne) := fun s => s.cell k5
  go_wp2_with fail
  refine region_below (by kernel_rfl) (by kernel_rfl) ?_
  repeat (go_big_quiet_step ((first | (go_at_call 65; exact Calls.sub_of (HR1.out _)) | (go_at_call 66; exact Calls.sub_of (HV1.out _)))))
  refine wpQuiet_nil ?_
  intro w4 hb4
  have S4 := Lib.hid (S3.out.more hb4)
  clear hb4
  go_wp2_with fail
  go_ret
  exact ⟨by rw [E.out]; rfl, S4.out.below⟩
 have n9 : (x.op == 9) = false := beq_false_of_ne h9
 have E := Lib.hid (FE.out h22 h4 h8 h9)
 go_wp2_with fail
 go_ret
 exact ⟨by rw [E.out]; rfl, S3.out.below⟩
end Go.Proofs.Ytlhpjfnfemebdaa
