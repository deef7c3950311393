/-
  Who can act. What acting makes of a configuration, plain: a configuration that can be stays one that can be.
-/
import Derived.Test.YtlhpjfnfemebdaaMachN
namespace Go.Proofs.Ytlhpjfnfemebdaa
open Go.RowKit
def agN (u : PUn) (model : Int) : Nat := if model = 1 then u.regs.length else if model = 2 then 2 * u.regs.length else if model = 3 then u.regs.length + u.regs.length * u.init.length else 0
theorem agN_le {u : PUn} (h : rightU u = true) (model : Int) : agN u model ≤ 28 := by
 obtain ⟨-, -, h3, ⟨h4, h5⟩, -, -⟩ := rightU_iff.1 h
 have : u.regs.length * u.init.length ≤ 4 * 6 := Nat.mul_le_mul h5 h3
 unfold agN
 repeat' split
 all_goals omega
set_option maxRecDepth 100000 in
set_option maxHeartbeats 16000000 in
theorem agents_ok (uv : Value) (u : PUn) (model : Int) (w : World) (hu : UnV w uv u) (hR : rightU u = true) (hL : UnL u) :
  Calls Try.prog 22 #[uv, .int .i64 model] w fun r w' => r = .returned (.int .i64 (agN u model : Nat)) ∧ Below w.heap.size w w' := by
 have HR := Lib.hid (fun (w' : World) (hb : Below w.heap.size w w') => (by have := rightu_ok uv u w' (hu.below hb) hL; rwa [hR] at this : Calls Try.prog 36 #[uv] w' fun e w2 => e = .returned (.bool true) ∧ Below w'.heap.size w' w2))
 obtain ⟨-, -, h3, ⟨h4, h5⟩, -, -⟩ := rightU_iff.1 hR
 have hmul : u.regs.length * u.init.length ≤ 4 * 6 := Nat.mul_le_mul h5 h3
 obtain ⟨ia, ic, ga, gc, ca, cc, rfl, -⟩ := hu.var
 have S0 := Lib.hid (BxC.start w #[.int .i64 u.mod, .slice ia u.init.length ic, .slice ga u.regs.length gc, .slice ca u.code.length cc] 25)
 clear hu hR hL
 have hmI : (u.regs.length : Int) * (u.init.length : Int) = ((u.regs.length * u.init.length : Nat) : Int) := by rw [Int.natCast_mul]
 unfold agN
 generalize hnm : u.regs.length * u.init.length = nm at *
 clear hnm
 have W1 : IntKind.i64.wrap (2 * (u.regs.length : Int)) = 2 * (u.regs.length : Int) := IntWalk.i64_in _ (by omega)
 have W2 : IntKind.i64.wrap ((nm : Nat) : Int) = (nm : Int) := IntWalk.i64_in _ (by omega)
 have W3 : IntKind.i64.wrap ((u.regs.length : Int) + (nm : Int)) = (u.regs.length : Int) + (nm : Int) := IntWalk.i64_in _ (by omega)
 by_cases h1 : model = 1
 ·subst h1
  rw [if_pos rfl]
  go_enter Try.func22, Try.ntmps22
  go_wp2_with (go_at_call 36; refine (HR.out _ S0.out.below).mono ?_; rintro e1 w1 ⟨rfl, hb1⟩; have S1 := Lib.hid (S0.out.more hb1); clear hb1; have c1 := cell_of_block S1.out.blk 1 _ rfl; have c2 := cell_of_block S1.out.blk 2 _ rfl)
  go_ret
  exact ⟨rfl, S1.out.below⟩
 rw [if_neg h1]
 have n1 : (model == 1) = false := beq_false_of_ne h1
 by_cases h2 : model = 2
 ·subst h2
  rw [if_pos rfl]
  go_enter Try.func22, Try.ntmps22
  go_wp2_with (go_at_call 36; refine (HR.out _ S0.out.below).mono ?_; rintro e1 w1 ⟨rfl, hb1⟩; have S1 := Lib.hid (S0.out.more hb1); clear hb1; have c1 := cell_of_block S1.out.blk 1 _ rfl; have c2 := cell_of_block S1.out.blk 2 _ rfl)
  go_ret
  exact ⟨by simp, S1.out.below⟩
 rw [if_neg h2]
 have n2 : (model == 2) = false := beq_false_of_ne h2
 by_cases h3' : model = 3
 ·subst h3'
  rw [if_pos rfl]
  go_enter Try.func22, Try.ntmps22
  go_wp2_with (go_at_call 36; refine (HR.out _ S0.out.below).mono ?_; rintro e1 w1 ⟨rfl, hb1⟩; have S1 := Lib.hid (S0.out.more hb1); clear hb1; have c1 := cell_of_block S1.out.blk 1 _ rfl; have c2 := cell_of_block S1.out.blk 2 _ rfl)
  go_ret
  exact ⟨by simp, S1.out.below⟩
 rw [if_neg h3']
 have n3 : (model == 3) = false := beq_false_of_ne h3'
 go_enter Try.func22, Try.ntmps22
 go_wp2_with (go_at_call 36; refine (HR.out _ S0.out.below).mono ?_; rintro e1 w1 ⟨rfl, hb1⟩; have S1 := Lib.hid (S0.out.more hb1); clear hb1; have c1 := cell_of_block S1.out.blk 1 _ rfl; have c2 := cell_of_block S1.out.blk 2 _ rfl)
 go_ret
 exact ⟨rfl, S1.out.below⟩
def enA (u : PUn) (c : Cf) (model room : Int) (a : Nat) : Bool :=
 if a < u.regs.length then enT u c model room a else if model = 2 then flushC c 2 (a - u.regs.length) (-1) else flushC c 3 ((a - u.regs.length) / u.init.length) (((a - u.regs.length) % u.init.length : Nat) : Int)
set_option maxRecDepth 100000 in
set_option maxHeartbeats 32000000 in
theorem enM_ok (uv cv : Value) (u : PUn) (c : Cf) (model room : Int) (a : Nat) (w : World) (hu : UnV w uv u) (hc : CfV w cv c) (hR : rightU u = true) (hL : UnL u) (hk : CfOk u 1000 c) (ha : a < agN u model) :
  Calls Try.prog 25 #[uv, cv, .int .i64 model, .int .i64 room, .int .i64 (a : Nat)] w fun r w' => r = .returned (.bool (enA u c model room a)) ∧ Below w.heap.size w w' := by
 have hag := agN_le hR model
 have HA := Lib.hid (fun (w' : World) (hb : Below w.heap.size w w') => agents_ok uv u model w' (hu.below hb) hR hL)
 have HE := Lib.hid (fun (w' : World) (hb : Below w.heap.size w w') (hlt : a < u.regs.length) => en10_ok uv cv u c model room a w' (hu.below hb) (hc.below hb) hR hL hk hlt)
 have HF := Lib.hid (fun (w' : World) (hb : Below w.heap.size w w') (mo loc : Int) (t : Nat) (ht : t < u.regs.length) (hml : mo = 2 ∧ loc = -1 ∨ mo = 3) => flushes_ok cv c mo loc t w' (hc.below hb) (by rw [hk.nbuf]; exact ht) (hk.blen t ht) hml)
 obtain ⟨-, -, h3, ⟨h4, h5⟩, -, -⟩ := rightU_iff.1 hR
 obtain ⟨ia, ic, ga, gc, ca, cc, rfl, -⟩ := hu.var
 obtain ⟨pa, pc, ra, rc, ma, mc, ba, bc, rfl, -⟩ := hc.var
 have S0 := Lib.hid (Bx2.start w #[.int .i64 u.mod, .slice ia u.init.length ic, .slice ga u.regs.length gc, .slice ca u.code.length cc] 25 #[.slice pa c.pc.length pc, .slice ra c.regs.length rc, .slice ma c.mem.length mc, .slice ba c.buf.length bc] 52)
 have hAG : ∀ m, agN u m = if m = 1 then u.regs.length else if m = 2 then 2 * u.regs.length else if m = 3 then u.regs.length + u.regs.length * u.init.length else 0 := fun m => rfl
 have HAG := Lib.hid hAG
 clear hu hc hk hL hR hAG
 generalize hw2 : (w.alloc (.cells #[.int .i64 u.mod, .slice ia u.init.length ic, .slice ga u.regs.length gc, .slice ca u.code.length cc] 25)).alloc (.cells #[.slice pa c.pc.length pc, .slice ra c.regs.length rc, .slice ma c.mem.length mc, .slice ba c.buf.length bc] 52) = w2 at *
 have i0 := cell_of_block S0.out.blk1 0 (.int .i64 u.mod) rfl
 have i1 := cell_of_block S0.out.blk1 1 (.slice ia u.init.length ic) rfl
 have i2 := cell_of_block S0.out.blk1 2 (.slice ga u.regs.length gc) rfl
 have i3 := cell_of_block S0.out.blk1 3 (.slice ca u.code.length cc) rfl
 by_cases hlt : a < u.regs.length
 ·have E : Hid (enA u c model room a = enT u c model room a) := Lib.hid (if_pos hlt)
  generalize enA u c model room a = RES at *
  have HE2 := Lib.hid (fun (w' : World) (hb : Below w.heap.size w w') => HE.out w' hb hlt)
  generalize enT u c model room a = ET at *
  clear HE HF HAG
  have z1 : (a : Int) < (u.regs.length : Int) := by omega
  have z2 : (a : Int) < (agN u model : Int) := by omega
  generalize agN u model = ag at *
  go_enter Try.func25, Try.ntmps25
  go_wp2_with (first
   | (go_at_call 40; refine (HE2.out _ S1.out.below).mono ?_; rintro e2 w4 ⟨rfl, hb2⟩; have S2 := Lib.hid (S1.out.more hb2); clear hb2)
   | (go_at_call 22; refine (HA.out _ S0.out.below).mono ?_; rintro e1 w3 ⟨rfl, hb1⟩; have S1 := Lib.hid (S0.out.more hb1); clear hb1 i0 i1 i2 i3; have i0 := cell_of_block S1.out.blk1 0 _ rfl; have i1 := cell_of_block S1.out.blk1 1 _ rfl; have i2 := cell_of_block S1.out.blk1 2 _ rfl; have i3 := cell_of_block S1.out.blk1 3 _ rfl; have l0 := cell_of_block S1.out.blk2 0 _ rfl; have l1 := cell_of_block S1.out.blk2 1 _ rfl; have l2 := cell_of_block S1.out.blk2 2 _ rfl; have l3 := cell_of_block S1.out.blk2 3 _ rfl))
  go_ret
  exact ⟨by rw [E.out]; rfl, S2.out.below⟩
 obtain ⟨k, rfl⟩ : ∃ k, a = u.regs.length + k := ⟨a - u.regs.length, by omega⟩
 have z1 : ¬ ((u.regs.length + k : Nat) : Int) < (u.regs.length : Int) := by omega
 have z1' : (u.regs.length : Int) ≤ (u.regs.length : Int) + (k : Int) := by omega
 have z2 : (u.regs.length : Int) + (k : Int) < (agN u model : Int) := by omega
 have hk0 : 0 ≤ (u.regs.length : Int) + (k : Int) := by omega
 have W1 : IntKind.i64.wrap ((u.regs.length : Int) + (k : Int) - (u.regs.length : Int)) = (k : Int) := by rw [IntWalk.i64_in _ (by omega)]; omega
 have hen : enA u c model room (u.regs.length + k) = if model = 2 then flushC c 2 k (-1) else flushC c 3 (k / u.init.length) ((k % u.init.length : Nat) : Int) := by
  unfold enA
  rw [if_neg hlt, Nat.add_sub_cancel_left]
 have HEN := Lib.hid hen
 generalize enA u c model room (u.regs.length + k) = RES at *
 clear hen HE hlt
 have n1 : model ≠ 1 := fun e => by
  have := HAG.out model
  rw [if_pos e] at this
  omega
 by_cases h2 : model = 2
 ·have hkn : k < u.regs.length := by
   have := HAG.out model
   rw [if_neg n1, if_pos h2] at this
   omega
  subst h2
  have E := Lib.hid (HEN.out.trans (if_pos rfl))
  have HF2 := Lib.hid (fun (w' : World) (hb : Below w.heap.size w w') => HF.out w' hb 2 (-1) k hkn (.inl ⟨rfl, rfl⟩))
  generalize flushC c 2 k (-1) = FL at *
  clear HF HEN HAG n1
  generalize agN u 2 = ag at *
  go_enter Try.func25, Try.ntmps25
  go_wp2_with (first
   | (go_at_call 41; refine (HF2.out _ S1.out.below).mono ?_; rintro e2 w4 ⟨rfl, hb2⟩; have S2 := Lib.hid (S1.out.more hb2); clear hb2)
   | (go_at_call 22; refine (HA.out _ S0.out.below).mono ?_; rintro e1 w3 ⟨rfl, hb1⟩; have S1 := Lib.hid (S0.out.more hb1); clear hb1 i0 i1 i2 i3; have i0 := cell_of_block S1.out.blk1 0 _ rfl; have i1 := cell_of_block S1.out.blk1 1 _ rfl; have i2 := cell_of_block S1.out.blk1 2 _ rfl; have i3 := cell_of_block S1.out.blk1 3 _ rfl; have l0 := cell_of_block S1.out.blk2 0 _ rfl; have l1 := cell_of_block S1.out.blk2 1 _ rfl; have l2 := cell_of_block S1.out.blk2 2 _ rfl; have l3 := cell_of_block S1.out.blk2 3 _ rfl))
  go_ret
  exact ⟨by rw [E.out]; rfl, S2.out.below⟩
 ·have h3' : model = 3 := by
   have := HAG.out model
   rw [if_neg n1, if_neg h2] at this
   by_cases h : model = 3
   ·exact h
   ·rw [if_neg h] at this; omega
  have E := Lib.hid (HEN.out.trans (if_neg h2))
  have hkm : k < u.regs.length * u.init.length := by
   have := HAG.out model
   rw [if_neg n1, if_neg h2, if_pos h3'] at this
   omega
  have hm0 : 0 < u.init.length := by
   rcases Nat.eq_zero_or_pos u.init.length with h | h
   ·rw [h, Nat.mul_zero] at hkm; omega
   ·exact h
  have hdn : k / u.init.length < u.regs.length := Nat.div_lt_of_lt_mul (by rw [Nat.mul_comm]; exact hkm)
  subst h3'
  have HF3 := Lib.hid (fun (w' : World) (hb : Below w.heap.size w w') => HF.out w' hb 3 ((k % u.init.length : Nat) : Int) (k / u.init.length) hdn (.inr rfl))
  have T1 : (k : Int).tdiv (u.init.length : Int) = ((k / u.init.length : Nat) : Int) := by rw [Int.tdiv_eq_ediv_of_nonneg (by omega)]; rfl
  have T2 : (k : Int).tmod (u.init.length : Int) = ((k % u.init.length : Nat) : Int) := by rw [Int.tmod_eq_emod_of_nonneg (by omega)]; rfl
  have hdk : k / u.init.length ≤ k := Nat.div_le_self _ _
  have nz : ((u.init.length : Int) == 0) = false := beq_false_of_ne (by omega)
  clear HF HEN HAG n1 h2 hkm hdn
  generalize k / u.init.length = kd at *
  have W2 : IntKind.i64.wrap (kd : Int) = (kd : Int) := IntWalk.i64_in _ (by omega)
  generalize k % u.init.length = km at *
  generalize flushC c 3 kd (km : Int) = FL at *
  generalize agN u 3 = ag at *
  go_enter Try.func25, Try.ntmps25
  go_wp2_with (go_at_call 22; refine (HA.out _ S0.out.below).mono ?_; rintro e1 w3 ⟨rfl, hb1⟩; have S1 := Lib.hid (S0.out.more hb1); clear hb1 i0 i1 i2 i3; have i0 := cell_of_block S1.out.blk1 0 _ rfl; have i1 := cell_of_block S1.out.blk1 1 _ rfl; have i2 := cell_of_block S1.out.blk1 2 _ rfl; have i3 := cell_of_block S1.out.blk1 3 _ rfl; have l0 := cell_of_block S1.out.blk2 0 _ rfl; have l1 := cell_of_block S1.out.blk2 1 _ rfl; have l2 := cell_of_block S1.out.blk2 2 _ rfl; have l3 := cell_of_block S1.out.blk2 3 _ rfl)
  have HF4 := Lib.hid (fun (s : Sub w3) => HF3.out s.1 (S1.out.below.trans (s.2.mono S1.out.below.size)))
  have f1 : ∀ s : Sub w3, s.1.cell? ⟨w.heap.size, 1, none⟩ = some (.slice ia u.init.length ic) := fun s => s.cell i1
  have e0 : ∀ s : Sub w3, s.1.cell? ⟨w.heap.size + 1, 0, none⟩ = some (.slice pa c.pc.length pc) := fun s => s.cell l0
  have e1 : ∀ s : Sub w3, s.1.cell? ⟨w.heap.size + 1, 1, none⟩ = some (.slice ra c.regs.length rc) := fun s => s.cell l1
  have e2 : ∀ s : Sub w3, s.1.cell? ⟨w.heap.size + 1, 2, none⟩ = some (.slice ma c.mem.length mc) := fun s => s.cell l2
  have e3 : ∀ s : Sub w3, s.1.cell? ⟨w.heap.size + 1, 3, none⟩ = some (.slice ba c.buf.length bc) := fun s => s.cell l3
  refine region_below (by kernel_rfl) (by kernel_rfl) ?_
  repeat (go_big_quiet_step ((go_at_call 41; exact Calls.sub_of (HF4.out _))))
  refine wpQuiet_nil ?_
  intro w4 hb4
  have S2 := Lib.hid (S1.out.more hb4)
  clear hb4
  go_wp2_with fail
  go_ret
  exact ⟨by rw [E.out]; rfl, S2.out.below⟩
end Go.Proofs.Ytlhpjfnfemebdaa
namespace Go.Proofs.Ytlhpjfnfemebdaa
open Go.RowKit
def actC (u : PUn) (c : Cf) (model : Int) (t : Nat) : Cf :=
 let x := insT u c t
 let e := valI u.mod (c.regs.getD t []) x.e
 let p := c.pc.set t (c.pc.getD t 0 + 1)
 let m := c.mem.getD x.loc.toNat 0
 let rg := fun v => c.regs.set t ((c.regs.getD t []).set x.reg.toNat v)
 if x.op = 20 then { c with pc := c.pc.set t x.tgt }
 else if x.op = 21 then (if e = 0 then { c with pc := c.pc.set t x.tgt } else { c with pc := p })
 else if x.op = 2 then { c with pc := p, regs := rg e }
 else if x.op = 3 then { c with pc := p, regs := rg (readsC c t x.loc.toNat) }
 else if x.op = 4 then (if model = 1 then { c with pc := p, mem := c.mem.set x.loc.toNat e } else { c with pc := p, buf := c.buf.set t (pushE (c.buf.getD t []) model (x.loc, e)) })
 else if x.op = 5 then (if m = e then { c with pc := p, regs := rg m, mem := c.mem.set x.loc.toNat (valI u.mod (c.regs.getD t []) x.f) } else { c with pc := p, regs := rg m })
 else if x.op = 6 then { c with pc := p, regs := rg m, mem := c.mem.set x.loc.toNat (Int.tmod (m + e) u.mod) }
 else if x.op = 7 then { c with pc := p, regs := rg m, mem := c.mem.set x.loc.toNat e }
 else { c with pc := p }
def flushD (c : Cf) (model : Int) (t : Nat) (loc : Int) : Cf :=
 let p := popE (c.buf.getD t []) model loc
 { c with buf := c.buf.set t p.1, mem := c.mem.set p.2.1.1.toNat p.2.1.2 }
def actM (u : PUn) (c : Cf) (model : Int) (a : Nat) : Cf :=
 if a < u.regs.length then actC u c model a else if model = 2 then flushD c 2 (a - u.regs.length) (-1) else flushD c 3 ((a - u.regs.length) / u.init.length) (((a - u.regs.length) % u.init.length : Nat) : Int)
theorem oneB_iff {x : PIn} {regs locs many : Int} (h : oneB x regs locs many = true) : isOp x.op = true ∧ (hasP x.op 114 = true → 0 ≤ x.reg ∧ x.reg < regs) ∧ (hasP x.op 108 = true → 0 ≤ x.loc ∧ x.loc < locs) ∧ (hasP x.op 116 = true → 0 ≤ x.tgt ∧ x.tgt < many) := by
 unfold oneB at h
 simp only [Bool.and_eq_true] at h
 obtain ⟨⟨⟨⟨⟨⟨h1, h2⟩, h3⟩, h4⟩, -⟩, -⟩, -⟩ := h
 refine ⟨h1, fun h => ?_, fun h => ?_, fun h => ?_⟩
 ·rw [if_pos h] at h2; exact inR_iff.1 h2
 ·rw [if_pos h] at h3; exact inR_iff.1 h3
 ·rw [if_pos h] at h4; exact inR_iff.1 h4
theorem has_reg {op : Int} (h : op = 2 ∨ op = 3 ∨ op = 5 ∨ op = 6 ∨ op = 7) : hasP op 114 = true := by
 rcases h with rfl | rfl | rfl | rfl | rfl <;> decide
theorem has_loc {op : Int} (h : op = 3 ∨ op = 4 ∨ op = 5 ∨ op = 6 ∨ op = 7 ∨ op = 9) : hasP op 108 = true := by
 rcases h with rfl | rfl | rfl | rfl | rfl | rfl <;> decide
theorem has_tgt {op : Int} (h : op = 20 ∨ op = 21) : hasP op 116 = true := by
 rcases h with rfl | rfl <;> decide
theorem getD_setC {α : Type} {l : List α} {i j : Nat} {x d : α} (hi : i < l.length) : (l.set i x).getD j d = if j = i then x else l.getD j d := by
 by_cases e : j = i
 ·subst e; simp [List.getD, hi]
 ·rw [if_neg e]; simp [List.getD, List.getElem?_set_ne (Ne.symm e)]
section
variable {u : PUn} {c : Cf} {L : Nat}
theorem CfOk.more (h : CfOk u L c) {L' : Nat} (hl : L ≤ L') : CfOk u L' c := { h with blen := fun t ht => Nat.le_trans (h.blen t ht) hl }
theorem CfOk.setPc (h : CfOk u L c) {t : Nat} (ht : t < u.regs.length) {x : Int} (h0 : 0 ≤ x) (h1 : x < ((u.code.getD t []).length : Int)) : CfOk u L { c with pc := c.pc.set t x } :=
 { h with
  npc := by rw [List.length_set]; exact h.npc
  pc := fun k hk => by
   show 0 ≤ (c.pc.set t x).getD k 0 ∧ (c.pc.set t x).getD k 0 < _
   rw [getD_setC (by rw [h.npc]; exact ht)]
   split
   ·rename_i e; rw [e]; exact ⟨h0, h1⟩
   ·exact h.pc k hk }
theorem CfOk.setReg (h : CfOk u L c) {t : Nat} (ht : t < u.regs.length) {r : Nat} {x : Int} (h0 : 0 ≤ x ∧ x < u.mod) : CfOk u L { c with regs := c.regs.set t ((c.regs.getD t []).set r x) } :=
 { h with
  nregs := by rw [List.length_set]; exact h.nregs
  rlen := fun k hk => by
   show ((((c.regs.set t ((c.regs.getD t []).set r x)).getD k []).length : Nat) : Int) = _
   rw [getD_setC (by rw [h.nregs]; exact ht)]
   split
   ·rename_i e; rw [e, List.length_set]; exact h.rlen t ht
   ·exact h.rlen k hk
  reg := fun k hk => by
   show allR ((c.regs.set t ((c.regs.getD t []).set r x)).getD k []) u.mod = true
   rw [getD_setC (by rw [h.nregs]; exact ht)]
   split
   ·exact allR_set (h.reg t ht) h0 r
   ·exact h.reg k hk }
theorem CfOk.setMem (h : CfOk u L c) {l : Nat} {x : Int} (h0 : 0 ≤ x ∧ x < u.mod) : CfOk u L { c with mem := c.mem.set l x } :=
 { h with
  nmem := by rw [List.length_set]; exact h.nmem
  mem := allR_set h.mem h0 l }
theorem CfOk.setBuf (h : CfOk u L c) {L' : Nat} (hL : L ≤ L') {t : Nat} (ht : t < u.regs.length) {b : List En} (hb : b.length ≤ L') (he : ∀ y ∈ b, (0 ≤ y.1 ∧ y.1 < (u.init.length : Int)) ∧ 0 ≤ y.2 ∧ y.2 < u.mod) : CfOk u L' { c with buf := c.buf.set t b } :=
 { h with
  nbuf := by rw [List.length_set]; exact h.nbuf
  blen := fun k hk => by
   show ((c.buf.set t b).getD k []).length ≤ L'
   rw [getD_setC (by rw [h.nbuf]; exact ht)]
   split
   ·exact hb
   ·exact Nat.le_trans (h.blen k hk) hL
  ens := fun k hk y hy => by
   have hy' : y ∈ (c.buf.set t b).getD k [] := hy
   rw [getD_setC (by rw [h.nbuf]; exact ht)] at hy'
   split at hy'
   ·exact he y hy'
   ·exact h.ens k hk y hy' }
theorem lastK_mem {b : List En} {loc : Int} : ∀ {k : Nat} {v : Int}, k ≤ b.length → lastK b loc k = some v → ∃ y ∈ b, y.2 = v
 | 0, _, _, h => by simp [lastK] at h
 | k + 1, v, hk, h => by
  rw [lastK] at h
  split at h
  ·have := Option.some.inj h
   exact ⟨b.getD k (0, 0), by simp [List.getD, show k < b.length by omega], this⟩
  ·exact lastK_mem (by omega) h
theorem CfOk.reads (h : CfOk u L c) {t : Nat} (ht : t < u.regs.length) {l : Nat} (hl : l < u.init.length) : 0 ≤ readsC c t l ∧ readsC c t l < u.mod := by
 unfold readsC
 cases e : lastE (c.buf.getD t []) (l : Int) with
 | none => exact allR_get h.mem (by rw [h.nmem]; exact hl)
 | some v =>
  obtain ⟨y, hy, rfl⟩ := lastK_mem (Nat.le_refl _) e
  exact (h.ens t ht y hy).2
theorem inK_mem {e y : En} {b : List En} : ∀ {k : Nat}, k ≤ b.length → y ∈ (inK e b k).1 → y = e ∨ y ∈ b
 | 0, _, h => by simp [inK] at h
 | k + 1, hk, h => by
  have hm : b.getD k (0, 0) ∈ b := by simp [List.getD, show k < b.length by omega]
  rw [inK] at h
  repeat' split at h
  all_goals (simp only [List.mem_append, List.mem_cons, List.not_mem_nil, or_false] at h)
  ·rcases h with (h | h) | h
   ·exact inK_mem (by omega) h
   ·exact .inl h
   ·exact .inr (h ▸ hm)
  ·rcases h with h | rfl
   ·exact inK_mem (by omega) h
   ·exact .inr hm
theorem pushE_mem {b : List En} {model : Int} {e y : En} (h : y ∈ pushE b model e) : y = e ∨ y ∈ b := by
 unfold pushE at h
 repeat' split at h
 ·rcases List.mem_append.1 h with h | h
  ·exact .inr h
  ·exact .inl (List.mem_singleton.1 h)
 ·exact inK_mem (Nat.le_refl _) h
 ·rcases List.mem_append.1 h with h | h
  ·exact inK_mem (Nat.le_refl _) h
  ·exact .inl (List.mem_singleton.1 h)
theorem pushE_len (b : List En) (model : Int) (e : En) : (pushE b model e).length ≤ b.length + 1 := by
 have hk := inK_len e b b.length
 unfold pushE
 repeat' split
 ·simp
 ·rename_i h; rw [if_pos h] at hk; exact hk
 ·rename_i h; rw [if_neg h] at hk; simp; omega
theorem actC_ok (hR : rightU u = true) (h : CfOk u L c) {model room : Int} {t : Nat} (ht : t < u.regs.length) (hen : enT u c model room t = true) : CfOk u (L + 1) (actC u c model t) := by
 obtain ⟨hp0, hp1⟩ := h.pc t ht
 obtain ⟨⟨hm1, hm2⟩, -⟩ := rightU_iff.1 hR
 have hins := ins_ok hR ht (i := (c.pc.getD t 0).toNat) (by omega)
 change (insT u c t).op = 22 ∨ (oneB (insT u c t) _ _ _ = true ∧ _) at hins
 have hop : (insT u c t).op ≠ 22 := fun e => by
  unfold enT at hen
  rw [if_pos e] at hen
  cases hen
 obtain ⟨hone, hlt⟩ := hins.resolve_left hop
 obtain ⟨-, -, oloc, otgt⟩ := oneB_iff hone
 have hP : CfOk u L { c with pc := c.pc.set t (c.pc.getD t 0 + 1) } := h.setPc ht (by omega) (by omega)
 have hv : ∀ l, 0 ≤ valI u.mod (c.regs.getD t []) l ∧ valI u.mod (c.regs.getD t []) l < u.mod := fun l => valI_in (by omega) (h.reg t ht)
 have hM : ∀ l, l < u.init.length → 0 ≤ c.mem.getD l 0 ∧ c.mem.getD l 0 < u.mod := fun l hl => allR_get h.mem (by rw [h.nmem]; exact hl)
 unfold actC
 generalize insT u c t = x at *
 dsimp only
 split
 ·rename_i e
  obtain ⟨a, b⟩ := otgt (has_tgt (.inl e))
  exact (h.setPc ht a b).more (by omega)
 split
 ·rename_i e
  obtain ⟨a, b⟩ := otgt (has_tgt (.inr e))
  split
  ·exact (h.setPc ht a b).more (by omega)
  ·exact hP.more (by omega)
 split
 ·exact (hP.setReg ht (hv _)).more (by omega)
 split
 ·rename_i e
  obtain ⟨a, b⟩ := oloc (has_loc (.inl e))
  exact (hP.setReg ht (h.reads ht (by omega))).more (by omega)
 split
 ·rename_i e
  obtain ⟨a, b⟩ := oloc (has_loc (.inr (.inl e)))
  split
  ·exact (hP.setMem (hv _)).more (by omega)
  ·refine hP.setBuf (by omega) ht ?_ ?_
   ·have := pushE_len (c.buf.getD t []) model (x.loc, valI u.mod (c.regs.getD t []) x.e)
    have := h.blen t ht
    omega
   ·intro y hy
    rcases pushE_mem hy with rfl | hy
    ·exact ⟨⟨a, b⟩, hv _⟩
    ·exact h.ens t ht y hy
 split
 ·rename_i e
  obtain ⟨a, b⟩ := oloc (has_loc (.inr (.inr (.inl e))))
  have hm := hM x.loc.toNat (by omega)
  split
  ·exact ((hP.setReg ht hm).setMem (hv _)).more (by omega)
  ·exact (hP.setReg ht hm).more (by omega)
 split
 ·rename_i e
  obtain ⟨a, b⟩ := oloc (has_loc (.inr (.inr (.inr (.inl e)))))
  have hm := hM x.loc.toNat (by omega)
  have hq := hv x.e
  refine ((hP.setReg ht hm).setMem ⟨Int.tmod_nonneg _ (by omega), Int.tmod_lt_of_pos _ (by omega)⟩).more (by omega)
 split
 ·rename_i e
  obtain ⟨a, b⟩ := oloc (has_loc (.inr (.inr (.inr (.inr (.inl e))))))
  have hm := hM x.loc.toNat (by omega)
  exact ((hP.setReg ht hm).setMem (hv _)).more (by omega)
 ·exact hP.more (by omega)
theorem flushD_ok (h : CfOk u L c) {model loc : Int} {t : Nat} (ht : t < u.regs.length) (hf : flushC c model t loc = true) : CfOk u L (flushD c model t loc) := by
 have hat := popI_in (c.buf.getD t []) model loc
 unfold flushC popE at hf
 have h0 : 0 ≤ popI (c.buf.getD t []) model loc := of_decide_eq_true hf
 unfold flushD popE
 dsimp only
 rw [if_neg (by omega)]
 have hm : (c.buf.getD t []).getD (popI (c.buf.getD t []) model loc).toNat (0, 0) ∈ c.buf.getD t [] := by
  generalize hb : c.buf.getD t [] = b at *
  simp [List.getD, show (popI b model loc).toNat < b.length by omega]
 exact (h.setBuf (Nat.le_refl _) ht (b := outK (c.buf.getD t []) (popI (c.buf.getD t []) model loc) (c.buf.getD t []).length) (Nat.le_trans (outK_len _ _ _) (h.blen t ht)) (fun y hy => h.ens t ht y (outK_mem _ (Nat.le_refl _) hy))).setMem (h.ens t ht _ hm).2
theorem actM_ok (hR : rightU u = true) (h : CfOk u L c) {model room : Int} {a : Nat} (ha : a < agN u model) (hen : enA u c model room a = true) : CfOk u (L + 1) (actM u c model a) := by
 unfold enA at hen
 unfold actM
 split
 ·rename_i e
  rw [if_pos e] at hen
  exact actC_ok hR h e hen
 ·rename_i e
  rw [if_neg e] at hen
  unfold agN at ha
  split
  ·rename_i e2
   rw [if_pos e2] at hen
   rw [if_neg (by omega), if_pos e2] at ha
   exact (flushD_ok h (by omega) hen).more (by omega)
  ·rename_i e2
   rw [if_neg e2] at hen
   split at ha
   ·omega
   split at ha
   ·refine (flushD_ok h ?_ hen).more (by omega)
    have hn : 0 < u.init.length := by
     rcases Nat.eq_zero_or_pos u.init.length with q | q
     ·rw [q] at ha; omega
     ·exact q
    rw [Nat.div_lt_iff_lt_mul hn]
    generalize u.regs.length * u.init.length = N at *
    omega
   ·omega
end
end Go.Proofs.Ytlhpjfnfemebdaa
