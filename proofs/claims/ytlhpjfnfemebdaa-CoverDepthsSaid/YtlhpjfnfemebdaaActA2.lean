/-
  A thread goes on: step.Act. (Written by gen_act.py.)
-/
import Derived.Test.YtlhpjfnfemebdaaActB
import Derived.Test.YtlhpjfnfemebdaaJMachQ
import Derived.Test.YtlhpjfnfemebdaaJMachS
namespace Go.Proofs.Ytlhpjfnfemebdaa
open Go.RowKit
set_option maxRecDepth 100000 in
set_option maxHeartbeats 64000000 in
theorem act10_b (uv cv : Value) (u : PUn) (c : Cf) (model room : Int) (t : Nat) (w : World) (hu : UnV w uv u) (hc : CfV w cv c) (hR : rightU u = true) (hL : UnL u) (hk : CfOk u 1000 c) (ht : t < u.regs.length) (_hmod : model = 1 ∨ model = 2 ∨ model = 3) (hen : enT u c model room t = true) (hHALF : (insT u c t).op ≠ 20 ∧ (insT u c t).op ≠ 21 ∧ (insT u c t).op ≠ 2 ∧ (insT u c t).op ≠ 3 ∧ (insT u c t).op ≠ 4) :
  Calls Try.prog 69 #[uv, cv, .int .i64 model, .int .i64 room, .int .i64 (t : Nat)] w fun r w' => ∃ vp vr vm vb rv bv, r = .returned (.tuple #[.agg #[vp, vr, vm, vb], .bool true]) ∧ OwnC w.heap.size w' vp vr vm vb rv bv (actC u c model t) ∧ Below w.heap.size w w' := by
 obtain ⟨hp0, hp1⟩ := hk.pc t ht
 obtain ⟨⟨hm1, hm2⟩, -, hil6, ⟨-, hrl4⟩, hcl, hrow6⟩ := rightU_iff.1 hR
 obtain ⟨i, hi⟩ : ∃ i : Nat, c.pc.getD t 0 = (i : Int) := ⟨(c.pc.getD t 0).toNat, by omega⟩
 have hil : i < (u.code.getD t []).length := by omega
 have hins := ins_ok hR ht hil
 have HX : insT u c t = (u.code.getD t []).getD i pIn0 := by unfold insT; rw [hi, Int.toNat_natCast]
 have hop : ((u.code.getD t []).getD i pIn0).op ≠ 22 := fun h => by
  unfold enT at hen
  rw [HX, if_pos h] at hen
  cases hen
 have hone := (hins.resolve_left hop).1
 have hrow := hL.row _ (row_mem (u := u) (t := t) (by omega))
 have hxl := hrow.2 _ (in_mem hil)
 obtain ⟨⟨-, hrg6⟩, ⟨-, hcl1000⟩, -⟩ := rowU_iff.1 (hrow6 t ht)
 have hpos : 0 < u.regs.length := by omega
 have HCP := Lib.hid (fun (w' : World) (hb : Below w.heap.size w w') => copy_ok cv c w' (hc.below hb) ⟨by rw [hk.npc]; omega, by rw [hk.nmem]; omega, by rw [hk.nregs]; omega, by rw [hk.nbuf]; omega, fun k hk' => (by rw [hk.nregs] at hk'; have h1 := hk.rlen k hk'; have h2 := (rowU_iff.1 (hrow6 k hk')).1; omega), fun k hk' => (by rw [hk.nbuf] at hk'; exact hk.blen k hk')⟩)
 have HEN := Lib.hid (fun (w' : World) (hb : Below w.heap.size w w') => (by have := en10_ok uv cv u c model room t w' (hu.below hb) (hc.below hb) hR hL hk ht; rwa [hen] at this : Calls Try.prog 40 #[uv, cv, .int .i64 model, .int .i64 room, .int .i64 (t : Nat)] w' fun e w2 => e = .returned (.bool true) ∧ Below w'.heap.size w' w2))
 have HRD := Lib.hid (fun (loc : Nat) (hloc : loc < c.mem.length) (w' : World) (hb : Below w.heap.size w w') => reads_ok cv c t loc w' (hc.below hb) (by rw [hk.nbuf]; exact ht) hloc (hk.blen t ht))
 have HVL := Lib.hid (fun (ev : Value) (l : List Ed) (hl : l.length ≤ 1000000) (w' : World) (hb : Below w.heap.size w w') (he : EdgesAt w' ev l) => val10_ok uv cv ev u c t l w' (hu.below hb) (hc.below hb) he (by rw [hk.nregs]; exact ht) hl ⟨hm1, hm2⟩ (hk.reg t ht) (by have := hk.rlen t ht; omega))
 obtain ⟨ia, ic, ga, gc, ca, cc, rfl, -, -, hcode⟩ := hu.var
 obtain ⟨pa, pc, ra, rc, ma, mc, ba, bc, rfl, h1, h2, h3, h4⟩ := hc.var
 obtain ⟨a1, c1, e1, h1⟩ := h1
 cases e1
 obtain ⟨b1, o1, rfl, x1⟩ := h1 t (by rw [hk.npc]; exact ht)
 obtain ⟨a2, c2, e2, hcode⟩ := hcode
 cases e2
 obtain ⟨b2, o2, u2, rfl, x2, hrw⟩ := hcode t (by omega)
 obtain ⟨a3, c3, rfl, hrw⟩ := hrw
 obtain ⟨b3, o3, rfl, ea, ec, fa, fc, q0, q1, q2, q3, q4, q5, q6, q7, q8⟩ := hrw i hil
 obtain ⟨a4, c4, e4, h4⟩ := h4
 cases e4
 obtain ⟨b4, o4, u4, rfl, x4, hen4⟩ := h4 t (by rw [hk.nbuf]; exact ht)
 have HPU : Hid (∀ e : En, ∀ w' : World, Below w.heap.size w w' → (model = 2 → Calls Try.prog 84 #[u4, .int .i64 2, .agg #[.int .i64 e.1, .int .i64 e.2]] w' fun r w2 => ∃ rv, r = .returned rv ∧ OwnE w'.heap.size w2 rv (pushE (c.buf.getD t []) 2 e) ∧ Below w'.heap.size w' w2) ∧ (model = 3 → Calls Try.prog 84 #[u4, .int .i64 3, .agg #[.int .i64 e.1, .int .i64 e.2]] w' fun r w2 => ∃ rv, r = .returned rv ∧ OwnE w'.heap.size w2 rv (pushE (c.buf.getD t []) 3 e) ∧ Below w'.heap.size w' w2)) := Lib.hid (fun e w' hb => ⟨fun _ => push2_ok u4 _ e w' (hen4.below hb) (hk.blen t ht), fun _ => push3_ok u4 _ e w' (hen4.below hb) (hk.blen t ht)⟩)
 have HME : Hid (∀ j, j < c.mem.length → ∃ b o, ma = some ⟨b, o, none⟩ ∧ w.cell? ⟨b, o + j, none⟩ = some (.int .i64 (c.mem.getD j 0))) := Lib.hid (by obtain ⟨am, cm, em, hm⟩ := h3; cases em; exact hm)
 have S0 := Lib.hid (Bx2.start w #[.int .i64 u.mod, .slice ia u.init.length ic, .slice ga u.regs.length gc, .slice (some ⟨b2, o2, none⟩) u.code.length cc] 25 #[.slice (some ⟨b1, o1, none⟩) c.pc.length pc, .slice ra c.regs.length rc, .slice ma c.mem.length mc, .slice (some ⟨b4, o4, none⟩) c.buf.length bc] 52)
 have z1 : (t : Int) < (c.pc.length : Int) := by rw [hk.npc]; omega
 have z2 : (t : Int) < (u.code.length : Int) := by omega
 have z3 : (i : Int) < ((u.code.getD t []).length : Int) := by omega
 have z4 : (t : Int) < (c.buf.length : Int) := by rw [hk.nbuf]; omega
 have z5 : (t : Int) < (c.regs.length : Int) := by rw [hk.nregs]; omega
 have HML := Lib.hid hk.nmem
 have HMB : Hid (∀ j, j < c.mem.length → 0 ≤ c.mem.getD j 0 ∧ c.mem.getD j 0 < u.mod) := Lib.hid (fun j hj => allR_get hk.mem hj)
 have HEB : Hid (∀ l, 0 ≤ valI u.mod (c.regs.getD t []) l ∧ valI u.mod (c.regs.getD t []) l < u.mod) := Lib.hid (fun l => valI_in (by omega) (hk.reg t ht))
 have HRL := Lib.hid (hk.rlen t ht)
 have HTL : Hid (t < c.pc.length ∧ t < c.regs.length ∧ t < c.buf.length) := Lib.hid ⟨by rw [hk.npc]; exact ht, by rw [hk.nregs]; exact ht, by rw [hk.nbuf]; exact ht⟩
 have HP1 : Hid (c.pc.getD t 0 = (i : Int)) := Lib.hid hi
 rw [hi] at x1
 unfold actC
 rw [HX]
 have HIB : (i : Int) + 1 < 2000 := by omega
 have HHF := Lib.hid hHALF
 rw [HX] at HHF
 clear hHALF
 clear hu hc hcode h1 h2 h3 h4 hk hR hL hp0 hp1 hrow hrw ht hcl hil hins hen hen4 hrow6 hrl4 hil6 hrg6 hpos hcl1000
 generalize (u.code.getD t []).length = rl at *
 generalize (u.code.getD t []).getD i pIn0 = x at *
 rw [hi]
 clear hi HX
 have HVE := Lib.hid (fun (w' : World) (hb : Below w.heap.size w w') (he : EdgesAt w' (.slice ea x.e.length ec) x.e) => HVL.out (.slice ea x.e.length ec) x.e (by omega) w' hb he)
 have HVF := Lib.hid (fun (w' : World) (hb : Below w.heap.size w w') (he : EdgesAt w' (.slice fa x.f.length fc) x.f) => HVL.out (.slice fa x.f.length fc) x.f (by omega) w' hb he)
 clear HVL
 have HEV := Lib.hid (HEB.out x.e)
 clear HEB
 dsimp only
 generalize valI u.mod (c.regs.getD t []) x.e = ev at *
 generalize valI u.mod (c.regs.getD t []) x.f = fv at *
 obtain ⟨RES, hRES⟩ : ∃ r, r = (if x.op = 20 then { c with pc := c.pc.set t x.tgt }
 else if x.op = 21 then (if ev = 0 then { c with pc := c.pc.set t x.tgt } else { c with pc := c.pc.set t ((i : Int) + 1) })
 else if x.op = 2 then { c with pc := c.pc.set t ((i : Int) + 1), regs := c.regs.set t ((c.regs.getD t []).set x.reg.toNat ev) }
 else if x.op = 3 then { c with pc := c.pc.set t ((i : Int) + 1), regs := c.regs.set t ((c.regs.getD t []).set x.reg.toNat (readsC c t x.loc.toNat)) }
 else if x.op = 4 then (if model = 1 then { c with pc := c.pc.set t ((i : Int) + 1), mem := c.mem.set x.loc.toNat ev } else { c with pc := c.pc.set t ((i : Int) + 1), buf := c.buf.set t (pushE (c.buf.getD t []) model (x.loc, ev)) })
 else if x.op = 5 then (if c.mem.getD x.loc.toNat 0 = ev then { c with pc := c.pc.set t ((i : Int) + 1), regs := c.regs.set t ((c.regs.getD t []).set x.reg.toNat (c.mem.getD x.loc.toNat 0)), mem := c.mem.set x.loc.toNat fv } else { c with pc := c.pc.set t ((i : Int) + 1), regs := c.regs.set t ((c.regs.getD t []).set x.reg.toNat (c.mem.getD x.loc.toNat 0)) })
 else if x.op = 6 then { c with pc := c.pc.set t ((i : Int) + 1), regs := c.regs.set t ((c.regs.getD t []).set x.reg.toNat (c.mem.getD x.loc.toNat 0)), mem := c.mem.set x.loc.toNat (Int.tmod (c.mem.getD x.loc.toNat 0 + ev) u.mod) }
 else if x.op = 7 then { c with pc := c.pc.set t ((i : Int) + 1), regs := c.regs.set t ((c.regs.getD t []).set x.reg.toNat (c.mem.getD x.loc.toNat 0)), mem := c.mem.set x.loc.toNat ev }
 else { c with pc := c.pc.set t ((i : Int) + 1) } : Cf) := ⟨_, rfl⟩
 have F20 : Hid (x.op = 20 → RES = { c with pc := c.pc.set t x.tgt }) := Lib.hid (fun h => by rw [hRES, if_pos h])
 have F21a : Hid (x.op = 21 → ev = 0 → RES = { c with pc := c.pc.set t x.tgt }) := Lib.hid (fun h h1 => by rw [hRES, if_neg (by omega), if_pos h, if_pos h1])
 have F21b : Hid (x.op = 21 → ¬ ev = 0 → RES = { c with pc := c.pc.set t ((i : Int) + 1) }) := Lib.hid (fun h h1 => by rw [hRES, if_neg (by omega), if_pos h, if_neg h1])
 have F2 : Hid (x.op = 2 → RES = { c with pc := c.pc.set t ((i : Int) + 1), regs := c.regs.set t ((c.regs.getD t []).set x.reg.toNat ev) }) := Lib.hid (fun h => by rw [hRES, if_neg (by omega), if_neg (by omega), if_pos h])
 have F3 : Hid (x.op = 3 → RES = { c with pc := c.pc.set t ((i : Int) + 1), regs := c.regs.set t ((c.regs.getD t []).set x.reg.toNat (readsC c t x.loc.toNat)) }) := Lib.hid (fun h => by rw [hRES, if_neg (by omega), if_neg (by omega), if_neg (by omega), if_pos h])
 have F4a : Hid (x.op = 4 → model = 1 → RES = { c with pc := c.pc.set t ((i : Int) + 1), mem := c.mem.set x.loc.toNat ev }) := Lib.hid (fun h h1 => by rw [hRES, if_neg (by omega), if_neg (by omega), if_neg (by omega), if_neg (by omega), if_pos h, if_pos h1])
 have F4b : Hid (x.op = 4 → ¬ model = 1 → RES = { c with pc := c.pc.set t ((i : Int) + 1), buf := c.buf.set t (pushE (c.buf.getD t []) model (x.loc, ev)) }) := Lib.hid (fun h h1 => by rw [hRES, if_neg (by omega), if_neg (by omega), if_neg (by omega), if_neg (by omega), if_pos h, if_neg h1])
 have F5a : Hid (x.op = 5 → c.mem.getD x.loc.toNat 0 = ev → RES = { c with pc := c.pc.set t ((i : Int) + 1), regs := c.regs.set t ((c.regs.getD t []).set x.reg.toNat (c.mem.getD x.loc.toNat 0)), mem := c.mem.set x.loc.toNat fv }) := Lib.hid (fun h h1 => by rw [hRES, if_neg (by omega), if_neg (by omega), if_neg (by omega), if_neg (by omega), if_neg (by omega), if_pos h, if_pos h1])
 have F5b : Hid (x.op = 5 → ¬ c.mem.getD x.loc.toNat 0 = ev → RES = { c with pc := c.pc.set t ((i : Int) + 1), regs := c.regs.set t ((c.regs.getD t []).set x.reg.toNat (c.mem.getD x.loc.toNat 0)) }) := Lib.hid (fun h h1 => by rw [hRES, if_neg (by omega), if_neg (by omega), if_neg (by omega), if_neg (by omega), if_neg (by omega), if_pos h, if_neg h1])
 have F6 : Hid (x.op = 6 → RES = { c with pc := c.pc.set t ((i : Int) + 1), regs := c.regs.set t ((c.regs.getD t []).set x.reg.toNat (c.mem.getD x.loc.toNat 0)), mem := c.mem.set x.loc.toNat (Int.tmod (c.mem.getD x.loc.toNat 0 + ev) u.mod) }) := Lib.hid (fun h => by rw [hRES, if_neg (by omega), if_neg (by omega), if_neg (by omega), if_neg (by omega), if_neg (by omega), if_neg (by omega), if_pos h])
 have F7 : Hid (x.op = 7 → RES = { c with pc := c.pc.set t ((i : Int) + 1), regs := c.regs.set t ((c.regs.getD t []).set x.reg.toNat (c.mem.getD x.loc.toNat 0)), mem := c.mem.set x.loc.toNat ev }) := Lib.hid (fun h => by rw [hRES, if_neg (by omega), if_neg (by omega), if_neg (by omega), if_neg (by omega), if_neg (by omega), if_neg (by omega), if_neg (by omega), if_pos h])
 have FE : Hid (x.op ≠ 20 ∧ x.op ≠ 21 ∧ x.op ≠ 2 ∧ x.op ≠ 3 ∧ x.op ≠ 4 ∧ x.op ≠ 5 ∧ x.op ≠ 6 ∧ x.op ≠ 7 → RES = { c with pc := c.pc.set t ((i : Int) + 1) }) := Lib.hid (fun h => by rw [hRES, if_neg (by omega), if_neg (by omega), if_neg (by omega), if_neg (by omega), if_neg (by omega), if_neg (by omega), if_neg (by omega), if_neg (by omega)])
 rw [← hRES]
 clear hRES
 generalize hw2 : (w.alloc (.cells #[.int .i64 u.mod, .slice ia u.init.length ic, .slice ga u.regs.length gc, .slice (some ⟨b2, o2, none⟩) u.code.length cc] 25)).alloc (.cells #[.slice (some ⟨b1, o1, none⟩) c.pc.length pc, .slice ra c.regs.length rc, .slice ma c.mem.length mc, .slice (some ⟨b4, o4, none⟩) c.buf.length bc] 52) = w2 at *
 have hsz2 : w2.heap.size = w.heap.size + 1 + 1 := by rw [← hw2]; simp
 have S1 := Lib.hid (S0.out.more (balloc w2 (.cells #[.slice none 0 0, .slice none 0 0, .slice none 0 0, .slice none 0 0] 52)))
 have HB3 : Hid ((w2.alloc (.cells #[.slice none 0 0, .slice none 0 0, .slice none 0 0, .slice none 0 0] 52)).heap[w.heap.size + 1 + 1]? = some (.cells #[.slice none 0 0, .slice none 0 0, .slice none 0 0, .slice none 0 0] 52 (0, 0))) := Lib.hid (by rw [← hsz2]; exact heap_alloc_new _ _)
 have HSZ := Lib.hid hsz2
 clear hsz2
 have y0 := cell_of_block S1.out.blk2 0 (.slice (some ⟨b1, o1, none⟩) c.pc.length pc) rfl
 have y1 := cell_of_block S1.out.blk2 1 (.slice ra c.regs.length rc) rfl
 have y2 := cell_of_block S1.out.blk2 2 (.slice ma c.mem.length mc) rfl
 have y3 := cell_of_block S1.out.blk2 3 (.slice (some ⟨b4, o4, none⟩) c.buf.length bc) rfl
 go_enter Try.func69, Try.ntmps69
 go_wp2_with (first
  | (go_at_call 40; refine (HEN.out _ S4.out.below).mono ?_; rintro e1 w5 ⟨rfl, hb5⟩; have S5 := Lib.hid (S4.out.more hb5); have O5 := Lib.hid (O4.out.more hb5); have B5 := Lib.hid (bheap hb5 B4.out); have D5 := Lib.hid (bheap hb5 D4.out); have HS5 := Lib.hid hb5.size; clear hb5)
  | (go_at_call 68; refine (HCP.out _ S1.out.below).mono ?_; rintro e1 w3 ⟨vp, vr, vm, vb, rv, bv, rfl, hoc, hb3⟩; clear HCP y0 y1 y2 y3; have S3 := Lib.hid (S1.out.more hb3); have B3 := Lib.hid (bheap hb3 HB3.out); have HS3 := Lib.hid hb3.size; obtain ⟨gp, kp, rfl, -, -⟩ := hoc.pc.form (by have := HTL.out; omega); obtain ⟨gr, kr, rfl, -, -⟩ := World.ownsRow.form hoc.regs.out (by have := HTL.out; omega); obtain ⟨gb, kb, rfl, -, -⟩ := World.ownsRow.form hoc.buf.out (by have := HTL.out; omega); obtain ⟨am, km, rfl⟩ := ownv hoc.mem; have OC := Lib.hid hoc; clear hoc hb3; have S4 := Lib.hid (S3.out.more (balloc w3 (.cells #[.slice (some ⟨gp, 0, none⟩) c.pc.length kp, .slice (some ⟨gr, 0, none⟩) c.regs.length kr, .slice am c.mem.length km, .slice (some ⟨gb, 0, none⟩) c.buf.length kb] 52))); have B4 := Lib.hid (bheap (balloc w3 (.cells #[.slice (some ⟨gp, 0, none⟩) c.pc.length kp, .slice (some ⟨gr, 0, none⟩) c.regs.length kr, .slice am c.mem.length km, .slice (some ⟨gb, 0, none⟩) c.buf.length kb] 52)) B3.out); have D4 := Lib.hid (heap_alloc_new w3 (.cells #[.slice (some ⟨gp, 0, none⟩) c.pc.length kp, .slice (some ⟨gr, 0, none⟩) c.regs.length kr, .slice am c.mem.length km, .slice (some ⟨gb, 0, none⟩) c.buf.length kb] 52)); have O4 := Lib.hid (OC.out.more (balloc w3 (.cells #[.slice (some ⟨gp, 0, none⟩) c.pc.length kp, .slice (some ⟨gr, 0, none⟩) c.regs.length kr, .slice am c.mem.length km, .slice (some ⟨gb, 0, none⟩) c.buf.length kb] 52))); have HS4 := Lib.hid (balloc w3 (.cells #[.slice (some ⟨gp, 0, none⟩) c.pc.length kp, .slice (some ⟨gr, 0, none⟩) c.regs.length kr, .slice am c.mem.length km, .slice (some ⟨gb, 0, none⟩) c.buf.length kb] 52)).size; have j0 := cell_of_block S4.out.blk1 0 (.int .i64 u.mod) rfl; have j1 := cell_of_block S4.out.blk1 1 (.slice ia u.init.length ic) rfl; have j2 := cell_of_block S4.out.blk1 2 (.slice ga u.regs.length gc) rfl; have j3 := cell_of_block S4.out.blk1 3 (.slice (some ⟨b2, o2, none⟩) u.code.length cc) rfl; have l0 := cell_of_block S4.out.blk2 0 (.slice (some ⟨b1, o1, none⟩) c.pc.length pc) rfl; have l1 := cell_of_block S4.out.blk2 1 (.slice ra c.regs.length rc) rfl; have l2 := cell_of_block S4.out.blk2 2 (.slice ma c.mem.length mc) rfl; have l3 := cell_of_block S4.out.blk2 3 (.slice (some ⟨b4, o4, none⟩) c.buf.length bc) rfl))
 have HSZ3 : Hid (w.heap.size + 3 ≤ w3.heap.size ∧ w3.heap.size + 1 ≤ w5.heap.size) := Lib.hid (by have a1 := HS3.out; have a2 := HS5.out; have a3 := HSZ.out; simp only [alloc_size] at a1 a2; omega)
 have OW5 : Hid (OwnC (w.heap.size + 3) w5 (.slice (some ⟨gp, 0, none⟩) c.pc.length kp) (.slice (some ⟨gr, 0, none⟩) c.regs.length kr) (.slice am c.mem.length km) (.slice (some ⟨gb, 0, none⟩) c.buf.length kb) rv bv c) := Lib.hid (O5.out.low (by have a3 := HSZ.out; simp only [alloc_size]; omega))
 have HLT : Hid (∀ v ∈ (.slice (some ⟨gp, 0, none⟩) c.pc.length kp) :: (.slice (some ⟨gr, 0, none⟩) c.regs.length kr) :: (.slice am c.mem.length km) :: (.slice (some ⟨gb, 0, none⟩) c.buf.length kb) :: (rv ++ bv), ∀ q, Value.ownBlock v = some q → q < w3.heap.size) := Lib.hid OC.out.lts
 have HDX : Hid (w3.heap.size < w5.heap.size) := Lib.hid (by have := HSZ3.out; omega)
 have BL5 := Lib.hid S5.out.below
 clear j0 j1 j2 j3 l0 l1 l2 l3 S0 S1 S3 S4 O4 O5 OC HB3 B3 B4 D4 HS3 HS4 HS5 hw2 HEN
 have x1 := bkeep BL5.out x1
 have x2 := bkeep BL5.out x2
 have q0 := bkeep BL5.out q0
 have q1 := bkeep BL5.out q1
 have q2 := bkeep BL5.out q2
 have q3 := bkeep BL5.out q3
 have q4 := bkeep BL5.out q4
 have q5 := bkeep BL5.out q5
 have q6 := bkeep BL5.out q6
 have g0 := cell_of_block S5.out.blk1 3 (.slice (some ⟨b2, o2, none⟩) u.code.length cc) rfl
 have g1 := cell_of_block S5.out.blk2 0 (.slice (some ⟨b1, o1, none⟩) c.pc.length pc) rfl
 have yx1 := bkeep (balloc w5 (.cells #[.int .i64 0, .int .i64 0, .int .i64 0, .slice none 0 0, .slice none 0 0, .bool false, .int .i64 0] 61)) x1
 have yx2 := bkeep (balloc w5 (.cells #[.int .i64 0, .int .i64 0, .int .i64 0, .slice none 0 0, .slice none 0 0, .bool false, .int .i64 0] 61)) x2
 have yq0 := bkeep (balloc w5 (.cells #[.int .i64 0, .int .i64 0, .int .i64 0, .slice none 0 0, .slice none 0 0, .bool false, .int .i64 0] 61)) q0
 have yq1 := bkeep (balloc w5 (.cells #[.int .i64 0, .int .i64 0, .int .i64 0, .slice none 0 0, .slice none 0 0, .bool false, .int .i64 0] 61)) q1
 have yq2 := bkeep (balloc w5 (.cells #[.int .i64 0, .int .i64 0, .int .i64 0, .slice none 0 0, .slice none 0 0, .bool false, .int .i64 0] 61)) q2
 have yq3 := bkeep (balloc w5 (.cells #[.int .i64 0, .int .i64 0, .int .i64 0, .slice none 0 0, .slice none 0 0, .bool false, .int .i64 0] 61)) q3
 have yq4 := bkeep (balloc w5 (.cells #[.int .i64 0, .int .i64 0, .int .i64 0, .slice none 0 0, .slice none 0 0, .bool false, .int .i64 0] 61)) q4
 have yq5 := bkeep (balloc w5 (.cells #[.int .i64 0, .int .i64 0, .int .i64 0, .slice none 0 0, .slice none 0 0, .bool false, .int .i64 0] 61)) q5
 have yq6 := bkeep (balloc w5 (.cells #[.int .i64 0, .int .i64 0, .int .i64 0, .slice none 0 0, .slice none 0 0, .bool false, .int .i64 0] 61)) q6
 have yg0 := bkeep (balloc w5 (.cells #[.int .i64 0, .int .i64 0, .int .i64 0, .slice none 0 0, .slice none 0 0, .bool false, .int .i64 0] 61)) g0
 have yg1 := bkeep (balloc w5 (.cells #[.int .i64 0, .int .i64 0, .int .i64 0, .slice none 0 0, .slice none 0 0, .bool false, .int .i64 0] 61)) g1
 go_region
 have M6 : Hid (ActM w ((w5.alloc (.cells #[.int .i64 x.op, .int .i64 x.reg, .int .i64 x.loc, .slice ea x.e.length ec, .slice fa x.f.length fc, .bool x.ne, .int .i64 x.tgt] 61)).drew) #[.int .i64 u.mod, .slice ia u.init.length ic, .slice ga u.regs.length gc, .slice (some ⟨b2, o2, none⟩) u.code.length cc] #[.slice (some ⟨b1, o1, none⟩) c.pc.length pc, .slice ra c.regs.length rc, .slice ma c.mem.length mc, .slice (some ⟨b4, o4, none⟩) c.buf.length bc] #[.slice (some ⟨gp, 0, none⟩) c.pc.length kp, .slice (some ⟨gr, 0, none⟩) c.regs.length kr, .slice am c.mem.length km, .slice (some ⟨gb, 0, none⟩) c.buf.length kb] #[.int .i64 x.op, .int .i64 x.reg, .int .i64 x.loc, .slice ea x.e.length ec, .slice fa x.f.length fc, .bool x.ne, .int .i64 x.tgt] w3.heap.size w5.heap.size) := Lib.hid ⟨((BL5.out.alloc BL5.out.size _).drew), bheap (balloc w5 (.cells #[.int .i64 x.op, .int .i64 x.reg, .int .i64 x.loc, .slice ea x.e.length ec, .slice fa x.f.length fc, .bool x.ne, .int .i64 x.tgt] 61)) S5.out.blk1, bheap (balloc w5 (.cells #[.int .i64 x.op, .int .i64 x.reg, .int .i64 x.loc, .slice ea x.e.length ec, .slice fa x.f.length fc, .bool x.ne, .int .i64 x.tgt] 61)) S5.out.blk2, bheap (balloc w5 (.cells #[.int .i64 x.op, .int .i64 x.reg, .int .i64 x.loc, .slice ea x.e.length ec, .slice fa x.f.length fc, .bool x.ne, .int .i64 x.tgt] 61)) B5.out, bheap (balloc w5 (.cells #[.int .i64 x.op, .int .i64 x.reg, .int .i64 x.loc, .slice ea x.e.length ec, .slice fa x.f.length fc, .bool x.ne, .int .i64 x.tgt] 61)) D5.out, heap_alloc_new w5 (.cells #[.int .i64 x.op, .int .i64 x.reg, .int .i64 x.loc, .slice ea x.e.length ec, .slice fa x.f.length fc, .bool x.ne, .int .i64 x.tgt] 61), by have := HSZ3.out; omega, HDX.out⟩
 have O6 := Lib.hid ((OW5.out.more (balloc w5 (.cells #[.int .i64 x.op, .int .i64 x.reg, .int .i64 x.loc, .slice ea x.e.length ec, .slice fa x.f.length fc, .bool x.ne, .int .i64 x.tgt] 61))).drew)
 clear x1 x2 q0 q1 q2 q3 q4 q5 q6 g0 g1 yx1 yx2 yq0 yq1 yq2 yq3 yq4 yq5 yq6 yg0 yg1 S5 B5 D5 OW5 HDX BL5
 have HD3 : Hid (w.heap.size + 3 ≤ w3.heap.size) := Lib.hid (by have := HSZ3.out; omega)
 clear HSZ3
 generalize (w5.alloc (.cells #[.int .i64 x.op, .int .i64 x.reg, .int .i64 x.loc, .slice ea x.e.length ec, .slice fa x.f.length fc, .bool x.ne, .int .i64 x.tgt] 61)).drew = w6 at *
 generalize w5.heap.size = X at *
 generalize w3.heap.size = D at *
 rw [HSZ.out]
 clear HSZ
 have j0 := cell_of_block M6.out.b1 0 (.int .i64 u.mod) rfl
 have j1 := cell_of_block M6.out.b1 1 (.slice ia u.init.length ic) rfl
 have j2 := cell_of_block M6.out.b1 2 (.slice ga u.regs.length gc) rfl
 have j3 := cell_of_block M6.out.b1 3 (.slice (some ⟨b2, o2, none⟩) u.code.length cc) rfl
 have l0 := cell_of_block M6.out.b2 0 (.slice (some ⟨b1, o1, none⟩) c.pc.length pc) rfl
 have l1 := cell_of_block M6.out.b2 1 (.slice ra c.regs.length rc) rfl
 have l2 := cell_of_block M6.out.b2 2 (.slice ma c.mem.length mc) rfl
 have l3 := cell_of_block M6.out.b2 3 (.slice (some ⟨b4, o4, none⟩) c.buf.length bc) rfl
 have d0 := cell_of_block M6.out.bd 0 (.slice (some ⟨gp, 0, none⟩) c.pc.length kp) rfl
 have d1 := cell_of_block M6.out.bd 1 (.slice (some ⟨gr, 0, none⟩) c.regs.length kr) rfl
 have d2 := cell_of_block M6.out.bd 2 (.slice am c.mem.length km) rfl
 have d3 := cell_of_block M6.out.bd 3 (.slice (some ⟨gb, 0, none⟩) c.buf.length kb) rfl
 have k0 := cell_of_block M6.out.bx 0 (.int .i64 x.op) rfl
 have k1 := cell_of_block M6.out.bx 1 (.int .i64 x.reg) rfl
 have k2 := cell_of_block M6.out.bx 2 (.int .i64 x.loc) rfl
 have k3 := cell_of_block M6.out.bx 3 (.slice ea x.e.length ec) rfl
 have k4 := cell_of_block M6.out.bx 4 (.slice fa x.f.length fc) rfl
 have k5 := cell_of_block M6.out.bx 5 (.bool x.ne) rfl
 have k6 := cell_of_block M6.out.bx 6 (.int .i64 x.tgt) rfl
 go_wp2_with (go_at_call 66; refine (HVE.out _ M6.out.low (q7.below M6.out.low)).mono ?_; rintro e1 w7 ⟨rfl, hb7⟩; have M7 := Lib.hid (M6.out.more hb7); have O7 := Lib.hid (O6.out.more hb7); clear hb7 j0 j1 j2 j3 l0 l1 l2 l3 d0 d1 d2 d3 k0 k1 k2 k3 k4 k5 k6)
 clear M6 O6
 have W7 := Lib.hid (ActW.mk M7.out O7.out HLT.out)
 clear M7 O7 HLT
 obtain ⟨-, fp, cp⟩ := W7.out.setPc HTL.out.1 ((i : Int) + 1)
 have W8 := Lib.hid (W7.out.setPc HTL.out.1 ((i : Int) + 1)).1.drew
 have d0 := cell_of_block W7.out.m.bd 0 (.slice (some ⟨gp, 0, none⟩) c.pc.length kp) rfl
 have l0 := cell_of_block W7.out.m.b2 0 (.slice (some ⟨b1, o1, none⟩) c.pc.length pc) rfl
 have xx := bkeep W7.out.m.low x1
 go_region
 clear fp cp d0 l0 xx x1 W7 HVE q7
 generalize (w7.setCell ⟨gp, t, none⟩ (.int .i64 ((i : Int) + 1))).drew = w8 at *
 have k0 := cell_of_block W8.out.m.bx 0 (.int .i64 x.op) rfl
 have k1 := cell_of_block W8.out.m.bx 1 (.int .i64 x.reg) rfl
 have k2 := cell_of_block W8.out.m.bx 2 (.int .i64 x.loc) rfl
 have k3 := cell_of_block W8.out.m.bx 3 (.slice ea x.e.length ec) rfl
 have k4 := cell_of_block W8.out.m.bx 4 (.slice fa x.f.length fc) rfl
 have k5 := cell_of_block W8.out.m.bx 5 (.bool x.ne) rfl
 have k6 := cell_of_block W8.out.m.bx 6 (.int .i64 x.tgt) rfl
 by_cases h20 : x.op = 20
 ·rw [h20] at k0
  have := HHF.out
  exfalso; omega
 have n20 : (x.op == 20) = false := beq_false_of_ne h20
 by_cases h21 : x.op = 21
 ·rw [h21] at k0
  have := HHF.out
  exfalso; omega
 have n21 : (x.op == 21) = false := beq_false_of_ne h21
 by_cases h2 : x.op = 2
 ·rw [h2] at k0
  have := HHF.out
  exfalso; omega
 have n2 : (x.op == 2) = false := beq_false_of_ne h2
 by_cases h3 : x.op = 3
 ·rw [h3] at k0
  have := HHF.out
  exfalso; omega
 have n3 : (x.op == 3) = false := beq_false_of_ne h3
 by_cases h4 : x.op = 4
 ·rw [h4] at k0
  have := HHF.out
  exfalso; omega
 have n4 : (x.op == 4) = false := beq_false_of_ne h4
 by_cases h6 : x.op = 6
 ·rw [h6] at k0
  have E := Lib.hid (F6.out h6)
  obtain ⟨hg0, hg1⟩ := (oneB_iff hone).2.1 (has_reg (.inr (.inr (.inr (.inl h6)))))
  obtain ⟨r, hr⟩ : ∃ r : Nat, x.reg = (r : Int) := ⟨x.reg.toNat, by omega⟩
  rw [hr, Int.toNat_natCast] at E
  rw [hr] at k1
  have hrl : r < (c.regs.getD t []).length := by have := HRL.out; omega
  obtain ⟨hl0, hl1⟩ := (oneB_iff hone).2.2.1 (has_loc (.inr (.inr (.inr (.inl h6)))))
  obtain ⟨lo, hlo⟩ : ∃ lo : Nat, x.loc = (lo : Int) := ⟨x.loc.toNat, by omega⟩
  rw [hlo, Int.toNat_natCast] at E
  rw [hlo] at k2
  have hll : lo < c.mem.length := by have := HML.out; omega
  have z7 : (lo : Int) < (c.mem.length : Int) := by omega
  obtain ⟨g, cap, cr, HW⟩ : ∃ g cap, w8.cell? ⟨gr, t, none⟩ = some (.slice (some ⟨g, 0, none⟩) (c.regs.getD t []).length cap) ∧ Hid (∀ w9, Below w8.heap.size w8 w9 → w9.frozen? ⟨g, r, none⟩ = false ∧ w9.cell? ⟨g, r, none⟩ = some (.int .i64 ((c.regs.getD t []).getD r 0)) ∧ ∀ x, ActW w (w9.setCell ⟨g, r, none⟩ (.int .i64 x)) _ _ _ D X gp kp gr kr am km gb kb c.pc.length c.regs.length c.mem.length c.buf.length rv bv { c with pc := c.pc.set t ((i : Int) + 1), regs := c.regs.set t ((c.regs.getD t []).set r x) }) := by
   obtain ⟨g, cap, a1, b4⟩ := W8.out.setReg' (t := t) (r := r) HTL.out.2.1 hrl
   exact ⟨g, cap, a1, Lib.hid b4⟩
  have z6 : (r : Int) < ((c.regs.getD t []).length : Int) := by omega
  generalize (c.regs.getD t []).length = nl at cr z6
  obtain ⟨bm, om, rfl, cme⟩ := HME.out lo hll
  have cm0 := bkeep W8.out.m.low cme
  have hmv := HMB.out lo hll
  have hev := HEV.out
  have W1 : IntKind.i64.wrap (c.mem.getD lo 0 + ev) = c.mem.getD lo 0 + ev := IntWalk.i64_in _ (by omega)
  have W2 : IntKind.i64.wrap ((c.mem.getD lo 0 + ev).tmod u.mod) = (c.mem.getD lo 0 + ev).tmod u.mod := IntWalk.i64_in _ (by have h1 := Int.tmod_nonneg u.mod (show 0 ≤ c.mem.getD lo 0 + ev by omega); have h2 := Int.tmod_lt_of_pos (c.mem.getD lo 0 + ev) (show 0 < u.mod by omega); omega)
  have W3 : (u.mod == 0) = false := beq_false_of_ne (by omega)
  clear hmv hev
  clear HRD HPU HME HVF HP1 HML HRL HMB HEV F20 F21a F21b F2 F3 F4a F4b F5a F5b F6 F7 FE x2 x4 q0 q1 q2 q3 q4 q5 q6
  generalize c.mem.getD lo 0 = mv at *
  have d1 := cell_of_block W8.out.m.bd 1 (.slice (some ⟨gr, 0, none⟩) c.regs.length kr) rfl
  have l2 := cell_of_block W8.out.m.b2 2 (.slice (some ⟨bm, om, none⟩) c.mem.length mc) rfl
  have s0 : ∀ s : Sub w8, s.1.cell? ⟨D, 1, none⟩ = some (.slice (some ⟨gr, 0, none⟩) c.regs.length kr) := fun s => s.cell d1
  have s1 : ∀ s : Sub w8, s.1.cell? ⟨gr, t, none⟩ = some (.slice (some ⟨g, 0, none⟩) nl cap) := fun s => s.cell cr
  have s2 : ∀ s : Sub w8, s.1.cell? ⟨X, 1, none⟩ = some (.int .i64 (r : Nat)) := fun s => s.cell k1
  have s3 : ∀ s : Sub w8, s.1.cell? ⟨X, 2, none⟩ = some (.int .i64 (lo : Nat)) := fun s => s.cell k2
  have s4 : ∀ s : Sub w8, s.1.cell? ⟨w.heap.size + 1, 2, none⟩ = some (.slice (some ⟨bm, om, none⟩) c.mem.length mc) := fun s => s.cell l2
  have s5 : ∀ s : Sub w8, s.1.cell? ⟨bm, om + lo, none⟩ = some (.int .i64 mv) := fun s => s.cell cm0
  go_wp2_with fail
  refine region_qtail 13 (by kernel_rfl) (by kernel_rfl) ?_
  simp only [List.take_succ_cons, List.take_zero, List.drop_succ_cons, List.drop_zero]
  repeat (go_big_quiet_step ((fail)))
  refine wpQuiet_nil ?_
  intro w9 hb9
  obtain ⟨fr, cv, H9⟩ := HW.out w9 hb9
  have W9 := Lib.hid (H9 mv)
  have cm9 := bkeep hb9 cm0
  clear HW H9 hb9 s0 s1 s2 s3 s4 s5 d1 l2 k0 k1 k2 k3 k4 k5 k6 cr cm0
  go_wp2_with fail
  generalize w9.setCell ⟨g, r, none⟩ (.int .i64 mv) = wA at *
  obtain ⟨gm, rfl, HM⟩ := W9.out.setMem' (l := lo) hll
  have HM := Lib.hid HM
  have d2 := cell_of_block W9.out.m.bd 2 (.slice (some ⟨gm, 0, none⟩) c.mem.length km) rfl
  have l2 := cell_of_block W9.out.m.b2 2 (.slice (some ⟨bm, om, none⟩) c.mem.length mc) rfl
  have k2 := cell_of_block W9.out.m.bx 2 (.int .i64 x.loc) rfl
  rw [hlo] at k2
  have cm1 := bkeep W9.out.m.low cme
  have j0 := cell_of_block W9.out.m.b1 0 (.int .i64 u.mod) rfl
  have s0 : ∀ s : Sub wA, s.1.cell? ⟨D, 2, none⟩ = some (.slice (some ⟨gm, 0, none⟩) c.mem.length km) := fun s => s.cell d2
  have s1 : ∀ s : Sub wA, s.1.cell? ⟨X, 2, none⟩ = some (.int .i64 (lo : Nat)) := fun s => s.cell k2
  have s2 : ∀ s : Sub wA, s.1.cell? ⟨w.heap.size + 1, 2, none⟩ = some (.slice (some ⟨bm, om, none⟩) c.mem.length mc) := fun s => s.cell l2
  have s3 : ∀ s : Sub wA, s.1.cell? ⟨bm, om + lo, none⟩ = some (.int .i64 mv) := fun s => s.cell cm1
  have s4 : ∀ s : Sub wA, s.1.cell? ⟨w.heap.size, 0, none⟩ = some (.int .i64 u.mod) := fun s => s.cell j0
  refine region_qtail 15 (by kernel_rfl) (by kernel_rfl) ?_
  simp only [List.take_succ_cons, List.take_zero, List.drop_succ_cons, List.drop_zero]
  repeat (go_big_quiet_step ((fail)))
  refine wpQuiet_nil ?_
  intro wB hbB
  obtain ⟨fm, cm, H10⟩ := HM.out wB hbB
  have W10 := Lib.hid (H10 ((mv + ev).tmod u.mod))
  clear HM H10 hbB
  clear s0 s1 s2 s3 s4 d2 k2 l2 cm1 j0
  have dz0 := cell_of_block W10.out.m.bd 0 (.slice (some ⟨gp, 0, none⟩) c.pc.length kp) rfl
  have dz1 := cell_of_block W10.out.m.bd 1 (.slice (some ⟨gr, 0, none⟩) c.regs.length kr) rfl
  have dz2 := cell_of_block W10.out.m.bd 2 (.slice (some ⟨gm, 0, none⟩) c.mem.length km) rfl
  have dz3 := cell_of_block W10.out.m.bd 3 (.slice (some ⟨gb, 0, none⟩) c.buf.length kb) rfl
  have rz0 := cell_of_block W10.out.m.b3 0 (.slice none 0 0) rfl
  have fz0 := free_of_block W10.out.m.b3 0
  have rz1 := cell_of_block W10.out.m.b3 1 (.slice none 0 0) rfl
  have fz1 := free_of_block W10.out.m.b3 1
  have rz2 := cell_of_block W10.out.m.b3 2 (.slice none 0 0) rfl
  have fz2 := free_of_block W10.out.m.b3 2
  have rz3 := cell_of_block W10.out.m.b3 3 (.slice none 0 0) rfl
  have fz3 := free_of_block W10.out.m.b3 3
  obtain ⟨OF, BF, gz0, gz1, gz2, gz3⟩ := act_end W10.out.m W10.out.o
  have OF := Lib.hid OF
  have BF := Lib.hid BF
  go_wp2_with fail
  refine bodyPost_ret (v := .tuple #[.agg #[.slice (some ⟨gp, 0, none⟩) c.pc.length kp, .slice (some ⟨gr, 0, none⟩) c.regs.length kr, .slice (some ⟨gm, 0, none⟩) c.mem.length km, .slice (some ⟨gb, 0, none⟩) c.buf.length kb], .bool true]) (by simp [results, Try.results69, go_sem, gz0, gz1, gz2, gz3]) rfl ?_
  first
   | exact ⟨_, _, _, _, rfl, ⟨_, _, by rw [E.out]; exact OF.out⟩, BF.out⟩
   | exact ⟨_, _, _, _, _, _, rfl, by rw [E.out]; exact OF.out, BF.out⟩
 have n6 : (x.op == 6) = false := beq_false_of_ne h6
 by_cases h5 : x.op = 5
 ·rw [h5] at k0
  by_cases he : c.mem.getD x.loc.toNat 0 = ev
  ·have E := Lib.hid (F5a.out h5 he)
   obtain ⟨hg0, hg1⟩ := (oneB_iff hone).2.1 (has_reg (.inr (.inr (.inl h5))))
   obtain ⟨r, hr⟩ : ∃ r : Nat, x.reg = (r : Int) := ⟨x.reg.toNat, by omega⟩
   rw [hr, Int.toNat_natCast] at E
   rw [hr] at k1
   have hrl : r < (c.regs.getD t []).length := by have := HRL.out; omega
   obtain ⟨hl0, hl1⟩ := (oneB_iff hone).2.2.1 (has_loc (.inr (.inr (.inl h5))))
   obtain ⟨lo, hlo⟩ : ∃ lo : Nat, x.loc = (lo : Int) := ⟨x.loc.toNat, by omega⟩
   rw [hlo, Int.toNat_natCast] at E
   rw [hlo] at k2
   have hll : lo < c.mem.length := by have := HML.out; omega
   have z7 : (lo : Int) < (c.mem.length : Int) := by omega
   obtain ⟨g, cap, cr, HW⟩ : ∃ g cap, w8.cell? ⟨gr, t, none⟩ = some (.slice (some ⟨g, 0, none⟩) (c.regs.getD t []).length cap) ∧ Hid (∀ w9, Below w8.heap.size w8 w9 → w9.frozen? ⟨g, r, none⟩ = false ∧ w9.cell? ⟨g, r, none⟩ = some (.int .i64 ((c.regs.getD t []).getD r 0)) ∧ ∀ x, ActW w (w9.setCell ⟨g, r, none⟩ (.int .i64 x)) _ _ _ D X gp kp gr kr am km gb kb c.pc.length c.regs.length c.mem.length c.buf.length rv bv { c with pc := c.pc.set t ((i : Int) + 1), regs := c.regs.set t ((c.regs.getD t []).set r x) }) := by
    obtain ⟨g, cap, a1, b4⟩ := W8.out.setReg' (t := t) (r := r) HTL.out.2.1 hrl
    exact ⟨g, cap, a1, Lib.hid b4⟩
   have z6 : (r : Int) < ((c.regs.getD t []).length : Int) := by omega
   generalize (c.regs.getD t []).length = nl at cr z6
   obtain ⟨bm, om, rfl, cme⟩ := HME.out lo hll
   have cm0 := bkeep W8.out.m.low cme
   rw [hlo, Int.toNat_natCast] at he
   clear HRD HPU HME HP1 HML HRL HMB HEV F20 F21a F21b F2 F3 F4a F4b F5a F5b F6 F7 FE x2 x4 q0 q1 q2 q3 q4 q5 q6
   generalize c.mem.getD lo 0 = mv at *
   have hbe : (mv == ev) = true := by simp [he]
   clear he
   have d1 := cell_of_block W8.out.m.bd 1 (.slice (some ⟨gr, 0, none⟩) c.regs.length kr) rfl
   have l2 := cell_of_block W8.out.m.b2 2 (.slice (some ⟨bm, om, none⟩) c.mem.length mc) rfl
   have s0 : ∀ s : Sub w8, s.1.cell? ⟨D, 1, none⟩ = some (.slice (some ⟨gr, 0, none⟩) c.regs.length kr) := fun s => s.cell d1
   have s1 : ∀ s : Sub w8, s.1.cell? ⟨gr, t, none⟩ = some (.slice (some ⟨g, 0, none⟩) nl cap) := fun s => s.cell cr
   have s2 : ∀ s : Sub w8, s.1.cell? ⟨X, 1, none⟩ = some (.int .i64 (r : Nat)) := fun s => s.cell k1
   have s3 : ∀ s : Sub w8, s.1.cell? ⟨X, 2, none⟩ = some (.int .i64 (lo : Nat)) := fun s => s.cell k2
   have s4 : ∀ s : Sub w8, s.1.cell? ⟨w.heap.size + 1, 2, none⟩ = some (.slice (some ⟨bm, om, none⟩) c.mem.length mc) := fun s => s.cell l2
   have s5 : ∀ s : Sub w8, s.1.cell? ⟨bm, om + lo, none⟩ = some (.int .i64 mv) := fun s => s.cell cm0
   go_wp2_with fail
   refine region_qtail 13 (by kernel_rfl) (by kernel_rfl) ?_
   simp only [List.take_succ_cons, List.take_zero, List.drop_succ_cons, List.drop_zero]
   repeat (go_big_quiet_step ((fail)))
   refine wpQuiet_nil ?_
   intro w9 hb9
   obtain ⟨fr, cv, H9⟩ := HW.out w9 hb9
   have W9 := Lib.hid (H9 mv)
   have cm9 := bkeep hb9 cm0
   clear HW H9 hb9 s0 s1 s2 s3 s4 s5 d1 l2 k0 k1 k2 k3 k4 k5 k6 cr cm0
   have l2 := cell_of_block W9.out.m.b2 2 (.slice (some ⟨bm, om, none⟩) c.mem.length mc) rfl
   have k2 := cell_of_block W9.out.m.bx 2 (.int .i64 x.loc) rfl
   rw [hlo] at k2
   have cm1 := bkeep W9.out.m.low cme
   go_wp2_with fail
   clear k2 l2 cm1
   generalize w9.setCell ⟨g, r, none⟩ (.int .i64 mv) = wA at *
   obtain ⟨gm, rfl, HM⟩ := W9.out.setMem' (l := lo) hll
   have HM := Lib.hid HM
   have HV1 := Lib.hid (fun (s : Sub wA) => HVF.out s.1 (W9.out.m.low.trans (s.2.mono W9.out.m.low.size)) (q8.below (W9.out.m.low.trans (s.2.mono W9.out.m.low.size))))
   have d2 := cell_of_block W9.out.m.bd 2 (.slice (some ⟨gm, 0, none⟩) c.mem.length km) rfl
   have k2 := cell_of_block W9.out.m.bx 2 (.int .i64 x.loc) rfl
   have k4 := cell_of_block W9.out.m.bx 4 (.slice fa x.f.length fc) rfl
   rw [hlo] at k2
   have j0 := cell_of_block W9.out.m.b1 0 (.int .i64 u.mod) rfl
   have j1 := cell_of_block W9.out.m.b1 1 (.slice ia u.init.length ic) rfl
   have j2 := cell_of_block W9.out.m.b1 2 (.slice ga u.regs.length gc) rfl
   have j3 := cell_of_block W9.out.m.b1 3 (.slice (some ⟨b2, o2, none⟩) u.code.length cc) rfl
   have l0 := cell_of_block W9.out.m.b2 0 (.slice (some ⟨b1, o1, none⟩) c.pc.length pc) rfl
   have l1 := cell_of_block W9.out.m.b2 1 (.slice ra c.regs.length rc) rfl
   have l2 := cell_of_block W9.out.m.b2 2 (.slice (some ⟨bm, om, none⟩) c.mem.length mc) rfl
   have l3 := cell_of_block W9.out.m.b2 3 (.slice (some ⟨b4, o4, none⟩) c.buf.length bc) rfl
   have s0 : ∀ s : Sub wA, s.1.cell? ⟨D, 2, none⟩ = some (.slice (some ⟨gm, 0, none⟩) c.mem.length km) := fun s => s.cell d2
   have s1 : ∀ s : Sub wA, s.1.cell? ⟨X, 2, none⟩ = some (.int .i64 (lo : Nat)) := fun s => s.cell k2
   have s2 : ∀ s : Sub wA, s.1.cell? ⟨X, 4, none⟩ = some (.slice fa x.f.length fc) := fun s => s.cell k4
   have s3 : ∀ s : Sub wA, s.1.cell? ⟨w.heap.size, 0, none⟩ = some (.int .i64 u.mod) := fun s => s.cell j0
   have s4 : ∀ s : Sub wA, s.1.cell? ⟨w.heap.size, 1, none⟩ = some (.slice ia u.init.length ic) := fun s => s.cell j1
   have s5 : ∀ s : Sub wA, s.1.cell? ⟨w.heap.size, 2, none⟩ = some (.slice ga u.regs.length gc) := fun s => s.cell j2
   have s6 : ∀ s : Sub wA, s.1.cell? ⟨w.heap.size, 3, none⟩ = some (.slice (some ⟨b2, o2, none⟩) u.code.length cc) := fun s => s.cell j3
   have s7 : ∀ s : Sub wA, s.1.cell? ⟨w.heap.size + 1, 0, none⟩ = some (.slice (some ⟨b1, o1, none⟩) c.pc.length pc) := fun s => s.cell l0
   have s8 : ∀ s : Sub wA, s.1.cell? ⟨w.heap.size + 1, 1, none⟩ = some (.slice ra c.regs.length rc) := fun s => s.cell l1
   have s9 : ∀ s : Sub wA, s.1.cell? ⟨w.heap.size + 1, 2, none⟩ = some (.slice (some ⟨bm, om, none⟩) c.mem.length mc) := fun s => s.cell l2
   have s10 : ∀ s : Sub wA, s.1.cell? ⟨w.heap.size + 1, 3, none⟩ = some (.slice (some ⟨b4, o4, none⟩) c.buf.length bc) := fun s => s.cell l3
   refine region_qtail 10 (by kernel_rfl) (by kernel_rfl) ?_
   simp only [List.take_succ_cons, List.take_zero, List.drop_succ_cons, List.drop_zero]
   repeat (go_big_quiet_step ((go_at_call 66; exact Calls.sub_of (HV1.out _))))
   refine wpQuiet_nil ?_
   intro wB hbB
   obtain ⟨fm, cm, H10⟩ := HM.out wB hbB
   have W10 := Lib.hid (H10 fv)
   clear HM H10 hbB
   clear s0 s1 s2 s3 s4 s5 s6 s7 s8 s9 s10 d2 k2 k4 j0 j1 j2 j3 l0 l1 l2 l3
   have dz0 := cell_of_block W10.out.m.bd 0 (.slice (some ⟨gp, 0, none⟩) c.pc.length kp) rfl
   have dz1 := cell_of_block W10.out.m.bd 1 (.slice (some ⟨gr, 0, none⟩) c.regs.length kr) rfl
   have dz2 := cell_of_block W10.out.m.bd 2 (.slice (some ⟨gm, 0, none⟩) c.mem.length km) rfl
   have dz3 := cell_of_block W10.out.m.bd 3 (.slice (some ⟨gb, 0, none⟩) c.buf.length kb) rfl
   have rz0 := cell_of_block W10.out.m.b3 0 (.slice none 0 0) rfl
   have fz0 := free_of_block W10.out.m.b3 0
   have rz1 := cell_of_block W10.out.m.b3 1 (.slice none 0 0) rfl
   have fz1 := free_of_block W10.out.m.b3 1
   have rz2 := cell_of_block W10.out.m.b3 2 (.slice none 0 0) rfl
   have fz2 := free_of_block W10.out.m.b3 2
   have rz3 := cell_of_block W10.out.m.b3 3 (.slice none 0 0) rfl
   have fz3 := free_of_block W10.out.m.b3 3
   obtain ⟨OF, BF, gz0, gz1, gz2, gz3⟩ := act_end W10.out.m W10.out.o
   have OF := Lib.hid OF
   have BF := Lib.hid BF
   go_wp2_with fail
   refine bodyPost_ret (v := .tuple #[.agg #[.slice (some ⟨gp, 0, none⟩) c.pc.length kp, .slice (some ⟨gr, 0, none⟩) c.regs.length kr, .slice (some ⟨gm, 0, none⟩) c.mem.length km, .slice (some ⟨gb, 0, none⟩) c.buf.length kb], .bool true]) (by simp [results, Try.results69, go_sem, gz0, gz1, gz2, gz3]) rfl ?_
   first
    | exact ⟨_, _, _, _, rfl, ⟨_, _, by rw [E.out]; exact OF.out⟩, BF.out⟩
    | exact ⟨_, _, _, _, _, _, rfl, by rw [E.out]; exact OF.out, BF.out⟩
  ·have E := Lib.hid (F5b.out h5 he)
   obtain ⟨hg0, hg1⟩ := (oneB_iff hone).2.1 (has_reg (.inr (.inr (.inl h5))))
   obtain ⟨r, hr⟩ : ∃ r : Nat, x.reg = (r : Int) := ⟨x.reg.toNat, by omega⟩
   rw [hr, Int.toNat_natCast] at E
   rw [hr] at k1
   have hrl : r < (c.regs.getD t []).length := by have := HRL.out; omega
   obtain ⟨hl0, hl1⟩ := (oneB_iff hone).2.2.1 (has_loc (.inr (.inr (.inl h5))))
   obtain ⟨lo, hlo⟩ : ∃ lo : Nat, x.loc = (lo : Int) := ⟨x.loc.toNat, by omega⟩
   rw [hlo, Int.toNat_natCast] at E
   rw [hlo] at k2
   have hll : lo < c.mem.length := by have := HML.out; omega
   have z7 : (lo : Int) < (c.mem.length : Int) := by omega
   obtain ⟨g, cap, cr, HW⟩ : ∃ g cap, w8.cell? ⟨gr, t, none⟩ = some (.slice (some ⟨g, 0, none⟩) (c.regs.getD t []).length cap) ∧ Hid (∀ w9, Below w8.heap.size w8 w9 → w9.frozen? ⟨g, r, none⟩ = false ∧ w9.cell? ⟨g, r, none⟩ = some (.int .i64 ((c.regs.getD t []).getD r 0)) ∧ ∀ x, ActW w (w9.setCell ⟨g, r, none⟩ (.int .i64 x)) _ _ _ D X gp kp gr kr am km gb kb c.pc.length c.regs.length c.mem.length c.buf.length rv bv { c with pc := c.pc.set t ((i : Int) + 1), regs := c.regs.set t ((c.regs.getD t []).set r x) }) := by
    obtain ⟨g, cap, a1, b4⟩ := W8.out.setReg' (t := t) (r := r) HTL.out.2.1 hrl
    exact ⟨g, cap, a1, Lib.hid b4⟩
   have z6 : (r : Int) < ((c.regs.getD t []).length : Int) := by omega
   generalize (c.regs.getD t []).length = nl at cr z6
   obtain ⟨bm, om, rfl, cme⟩ := HME.out lo hll
   have cm0 := bkeep W8.out.m.low cme
   rw [hlo, Int.toNat_natCast] at he
   clear HRD HPU HME HP1 HML HRL HMB HEV F20 F21a F21b F2 F3 F4a F4b F5a F5b F6 F7 FE x2 x4 q0 q1 q2 q3 q4 q5 q6
   generalize c.mem.getD lo 0 = mv at *
   have hbe : (mv == ev) = false := beq_false_of_ne he
   clear he
   have d1 := cell_of_block W8.out.m.bd 1 (.slice (some ⟨gr, 0, none⟩) c.regs.length kr) rfl
   have l2 := cell_of_block W8.out.m.b2 2 (.slice (some ⟨bm, om, none⟩) c.mem.length mc) rfl
   have s0 : ∀ s : Sub w8, s.1.cell? ⟨D, 1, none⟩ = some (.slice (some ⟨gr, 0, none⟩) c.regs.length kr) := fun s => s.cell d1
   have s1 : ∀ s : Sub w8, s.1.cell? ⟨gr, t, none⟩ = some (.slice (some ⟨g, 0, none⟩) nl cap) := fun s => s.cell cr
   have s2 : ∀ s : Sub w8, s.1.cell? ⟨X, 1, none⟩ = some (.int .i64 (r : Nat)) := fun s => s.cell k1
   have s3 : ∀ s : Sub w8, s.1.cell? ⟨X, 2, none⟩ = some (.int .i64 (lo : Nat)) := fun s => s.cell k2
   have s4 : ∀ s : Sub w8, s.1.cell? ⟨w.heap.size + 1, 2, none⟩ = some (.slice (some ⟨bm, om, none⟩) c.mem.length mc) := fun s => s.cell l2
   have s5 : ∀ s : Sub w8, s.1.cell? ⟨bm, om + lo, none⟩ = some (.int .i64 mv) := fun s => s.cell cm0
   go_wp2_with fail
   refine region_qtail 13 (by kernel_rfl) (by kernel_rfl) ?_
   simp only [List.take_succ_cons, List.take_zero, List.drop_succ_cons, List.drop_zero]
   repeat (go_big_quiet_step ((fail)))
   refine wpQuiet_nil ?_
   intro w9 hb9
   obtain ⟨fr, cv, H9⟩ := HW.out w9 hb9
   have W9 := Lib.hid (H9 mv)
   have cm9 := bkeep hb9 cm0
   clear HW H9 hb9 s0 s1 s2 s3 s4 s5 d1 l2 k0 k1 k2 k3 k4 k5 k6 cr cm0
   have l2 := cell_of_block W9.out.m.b2 2 (.slice (some ⟨bm, om, none⟩) c.mem.length mc) rfl
   have k2 := cell_of_block W9.out.m.bx 2 (.int .i64 x.loc) rfl
   rw [hlo] at k2
   have cm1 := bkeep W9.out.m.low cme
   have dz0 := cell_of_block W9.out.m.bd 0 (.slice (some ⟨gp, 0, none⟩) c.pc.length kp) rfl
   have dz1 := cell_of_block W9.out.m.bd 1 (.slice (some ⟨gr, 0, none⟩) c.regs.length kr) rfl
   have dz2 := cell_of_block W9.out.m.bd 2 (.slice am c.mem.length km) rfl
   have dz3 := cell_of_block W9.out.m.bd 3 (.slice (some ⟨gb, 0, none⟩) c.buf.length kb) rfl
   have rz0 := cell_of_block W9.out.m.b3 0 (.slice none 0 0) rfl
   have fz0 := free_of_block W9.out.m.b3 0
   have rz1 := cell_of_block W9.out.m.b3 1 (.slice none 0 0) rfl
   have fz1 := free_of_block W9.out.m.b3 1
   have rz2 := cell_of_block W9.out.m.b3 2 (.slice none 0 0) rfl
   have fz2 := free_of_block W9.out.m.b3 2
   have rz3 := cell_of_block W9.out.m.b3 3 (.slice none 0 0) rfl
   have fz3 := free_of_block W9.out.m.b3 3
   obtain ⟨OF, BF, gz0, gz1, gz2, gz3⟩ := act_end W9.out.m W9.out.o
   have OF := Lib.hid OF
   have BF := Lib.hid BF
   go_wp2_with fail
   refine bodyPost_ret (v := .tuple #[.agg #[.slice (some ⟨gp, 0, none⟩) c.pc.length kp, .slice (some ⟨gr, 0, none⟩) c.regs.length kr, .slice am c.mem.length km, .slice (some ⟨gb, 0, none⟩) c.buf.length kb], .bool true]) (by simp [results, Try.results69, go_sem, gz0, gz1, gz2, gz3]) rfl ?_
   first
    | exact ⟨_, _, _, _, rfl, ⟨_, _, by rw [E.out]; exact OF.out⟩, BF.out⟩
    | exact ⟨_, _, _, _, _, _, rfl, by rw [E.out]; exact OF.out, BF.out⟩
 have n5 : (x.op == 5) = false := beq_false_of_ne h5
 by_cases h7 : x.op = 7
 ·rw [h7] at k0
  have E := Lib.hid (F7.out h7)
  obtain ⟨hg0, hg1⟩ := (oneB_iff hone).2.1 (has_reg (.inr (.inr (.inr (.inr h7)))))
  obtain ⟨r, hr⟩ : ∃ r : Nat, x.reg = (r : Int) := ⟨x.reg.toNat, by omega⟩
  rw [hr, Int.toNat_natCast] at E
  rw [hr] at k1
  have hrl : r < (c.regs.getD t []).length := by have := HRL.out; omega
  obtain ⟨hl0, hl1⟩ := (oneB_iff hone).2.2.1 (has_loc (.inr (.inr (.inr (.inr (.inl h7))))))
  obtain ⟨lo, hlo⟩ : ∃ lo : Nat, x.loc = (lo : Int) := ⟨x.loc.toNat, by omega⟩
  rw [hlo, Int.toNat_natCast] at E
  rw [hlo] at k2
  have hll : lo < c.mem.length := by have := HML.out; omega
  have z7 : (lo : Int) < (c.mem.length : Int) := by omega
  obtain ⟨g, cap, cr, HW⟩ : ∃ g cap, w8.cell? ⟨gr, t, none⟩ = some (.slice (some ⟨g, 0, none⟩) (c.regs.getD t []).length cap) ∧ Hid (∀ w9, Below w8.heap.size w8 w9 → w9.frozen? ⟨g, r, none⟩ = false ∧ w9.cell? ⟨g, r, none⟩ = some (.int .i64 ((c.regs.getD t []).getD r 0)) ∧ ∀ x, ActW w (w9.setCell ⟨g, r, none⟩ (.int .i64 x)) _ _ _ D X gp kp gr kr am km gb kb c.pc.length c.regs.length c.mem.length c.buf.length rv bv { c with pc := c.pc.set t ((i : Int) + 1), regs := c.regs.set t ((c.regs.getD t []).set r x) }) := by
   obtain ⟨g, cap, a1, b4⟩ := W8.out.setReg' (t := t) (r := r) HTL.out.2.1 hrl
   exact ⟨g, cap, a1, Lib.hid b4⟩
  have z6 : (r : Int) < ((c.regs.getD t []).length : Int) := by omega
  generalize (c.regs.getD t []).length = nl at cr z6
  obtain ⟨bm, om, rfl, cme⟩ := HME.out lo hll
  have cm0 := bkeep W8.out.m.low cme
  clear HRD HPU HME HVF HP1 HML HRL HMB HEV F20 F21a F21b F2 F3 F4a F4b F5a F5b F6 F7 FE x2 x4 q0 q1 q2 q3 q4 q5 q6
  generalize c.mem.getD lo 0 = mv at *
  have d1 := cell_of_block W8.out.m.bd 1 (.slice (some ⟨gr, 0, none⟩) c.regs.length kr) rfl
  have l2 := cell_of_block W8.out.m.b2 2 (.slice (some ⟨bm, om, none⟩) c.mem.length mc) rfl
  have s0 : ∀ s : Sub w8, s.1.cell? ⟨D, 1, none⟩ = some (.slice (some ⟨gr, 0, none⟩) c.regs.length kr) := fun s => s.cell d1
  have s1 : ∀ s : Sub w8, s.1.cell? ⟨gr, t, none⟩ = some (.slice (some ⟨g, 0, none⟩) nl cap) := fun s => s.cell cr
  have s2 : ∀ s : Sub w8, s.1.cell? ⟨X, 1, none⟩ = some (.int .i64 (r : Nat)) := fun s => s.cell k1
  have s3 : ∀ s : Sub w8, s.1.cell? ⟨X, 2, none⟩ = some (.int .i64 (lo : Nat)) := fun s => s.cell k2
  have s4 : ∀ s : Sub w8, s.1.cell? ⟨w.heap.size + 1, 2, none⟩ = some (.slice (some ⟨bm, om, none⟩) c.mem.length mc) := fun s => s.cell l2
  have s5 : ∀ s : Sub w8, s.1.cell? ⟨bm, om + lo, none⟩ = some (.int .i64 mv) := fun s => s.cell cm0
  go_wp2_with fail
  refine region_qtail 13 (by kernel_rfl) (by kernel_rfl) ?_
  simp only [List.take_succ_cons, List.take_zero, List.drop_succ_cons, List.drop_zero]
  repeat (go_big_quiet_step ((fail)))
  refine wpQuiet_nil ?_
  intro w9 hb9
  obtain ⟨fr, cv, H9⟩ := HW.out w9 hb9
  have W9 := Lib.hid (H9 mv)
  have cm9 := bkeep hb9 cm0
  clear HW H9 hb9 s0 s1 s2 s3 s4 s5 d1 l2 k0 k1 k2 k3 k4 k5 k6 cr cm0 cme
  obtain ⟨gm, rfl, HM⟩ := W9.out.setMem' (l := lo) hll
  have HM := Lib.hid HM
  obtain ⟨fm, cm, H10⟩ := HM.out _ (Below.refl _ _)
  have W10 := Lib.hid (H10 ev)
  clear HM H10
  have d2 := cell_of_block W9.out.m.bd 2 (.slice (some ⟨gm, 0, none⟩) c.mem.length km) rfl
  have k2 := cell_of_block W9.out.m.bx 2 (.int .i64 x.loc) rfl
  rw [hlo] at k2
  have dz0 := cell_of_block W10.out.m.bd 0 (.slice (some ⟨gp, 0, none⟩) c.pc.length kp) rfl
  have dz1 := cell_of_block W10.out.m.bd 1 (.slice (some ⟨gr, 0, none⟩) c.regs.length kr) rfl
  have dz2 := cell_of_block W10.out.m.bd 2 (.slice (some ⟨gm, 0, none⟩) c.mem.length km) rfl
  have dz3 := cell_of_block W10.out.m.bd 3 (.slice (some ⟨gb, 0, none⟩) c.buf.length kb) rfl
  have rz0 := cell_of_block W10.out.m.b3 0 (.slice none 0 0) rfl
  have fz0 := free_of_block W10.out.m.b3 0
  have rz1 := cell_of_block W10.out.m.b3 1 (.slice none 0 0) rfl
  have fz1 := free_of_block W10.out.m.b3 1
  have rz2 := cell_of_block W10.out.m.b3 2 (.slice none 0 0) rfl
  have fz2 := free_of_block W10.out.m.b3 2
  have rz3 := cell_of_block W10.out.m.b3 3 (.slice none 0 0) rfl
  have fz3 := free_of_block W10.out.m.b3 3
  obtain ⟨OF, BF, gz0, gz1, gz2, gz3⟩ := act_end W10.out.m W10.out.o
  have OF := Lib.hid OF
  have BF := Lib.hid BF
  go_wp2_with fail
  refine bodyPost_ret (v := .tuple #[.agg #[.slice (some ⟨gp, 0, none⟩) c.pc.length kp, .slice (some ⟨gr, 0, none⟩) c.regs.length kr, .slice (some ⟨gm, 0, none⟩) c.mem.length km, .slice (some ⟨gb, 0, none⟩) c.buf.length kb], .bool true]) (by simp [results, Try.results69, go_sem, gz0, gz1, gz2, gz3]) rfl ?_
  first
   | exact ⟨_, _, _, _, rfl, ⟨_, _, by rw [E.out]; exact OF.out⟩, BF.out⟩
   | exact ⟨_, _, _, _, _, _, rfl, by rw [E.out]; exact OF.out, BF.out⟩
 have n7 : (x.op == 7) = false := beq_false_of_ne h7
 have E := Lib.hid (FE.out ⟨h20, h21, h2, h3, h4, h5, h6, h7⟩)
 have dz0 := cell_of_block W8.out.m.bd 0 (.slice (some ⟨gp, 0, none⟩) c.pc.length kp) rfl
 have dz1 := cell_of_block W8.out.m.bd 1 (.slice (some ⟨gr, 0, none⟩) c.regs.length kr) rfl
 have dz2 := cell_of_block W8.out.m.bd 2 (.slice am c.mem.length km) rfl
 have dz3 := cell_of_block W8.out.m.bd 3 (.slice (some ⟨gb, 0, none⟩) c.buf.length kb) rfl
 have rz0 := cell_of_block W8.out.m.b3 0 (.slice none 0 0) rfl
 have fz0 := free_of_block W8.out.m.b3 0
 have rz1 := cell_of_block W8.out.m.b3 1 (.slice none 0 0) rfl
 have fz1 := free_of_block W8.out.m.b3 1
 have rz2 := cell_of_block W8.out.m.b3 2 (.slice none 0 0) rfl
 have fz2 := free_of_block W8.out.m.b3 2
 have rz3 := cell_of_block W8.out.m.b3 3 (.slice none 0 0) rfl
 have fz3 := free_of_block W8.out.m.b3 3
 obtain ⟨OF, BF, gz0, gz1, gz2, gz3⟩ := act_end W8.out.m W8.out.o
 have OF := Lib.hid OF
 have BF := Lib.hid BF
 go_wp2_with fail
 refine bodyPost_ret (v := .tuple #[.agg #[.slice (some ⟨gp, 0, none⟩) c.pc.length kp, .slice (some ⟨gr, 0, none⟩) c.regs.length kr, .slice am c.mem.length km, .slice (some ⟨gb, 0, none⟩) c.buf.length kb], .bool true]) (by simp [results, Try.results69, go_sem, gz0, gz1, gz2, gz3]) rfl ?_
 first
  | exact ⟨_, _, _, _, rfl, ⟨_, _, by rw [E.out]; exact OF.out⟩, BF.out⟩
  | exact ⟨_, _, _, _, _, _, rfl, by rw [E.out]; exact OF.out, BF.out⟩
end Go.Proofs.Ytlhpjfnfemebdaa
