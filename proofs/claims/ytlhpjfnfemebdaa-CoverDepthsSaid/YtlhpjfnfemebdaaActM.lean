/-
  An agent acts: machine.Act.
-/
import Derived.Test.YtlhpjfnfemebdaaActA
import Derived.Test.YtlhpjfnfemebdaaJPartsMem
namespace Go.Proofs.Ytlhpjfnfemebdaa
open Go.RowKit
theorem conf_end {w wr : World} {R base : Nat} {v0 v1 v2 v3 : Value} {rv bv : List Value} {c : Cf} (low : Below w.heap.size w wr) (hR : wr.heap[R]? = some (.cells #[.slice none 0 0, .slice none 0 0, .slice none 0 0, .slice none 0 0] 52 (0, 0))) (h0 : w.heap.size ≤ R) (h1 : R < base) (o : OwnC base wr v0 v1 v2 v3 rv bv c) :
  OwnC w.heap.size ((((wr.setCell ⟨R, 0, none⟩ v0).setCell ⟨R, 1, none⟩ v1).setCell ⟨R, 2, none⟩ v2).setCell ⟨R, 3, none⟩ v3) v0 v1 v2 v3 rv bv c ∧ Below w.heap.size w ((((wr.setCell ⟨R, 0, none⟩ v0).setCell ⟨R, 1, none⟩ v1).setCell ⟨R, 2, none⟩ v2).setCell ⟨R, 3, none⟩ v3) ∧ ((((wr.setCell ⟨R, 0, none⟩ v0).setCell ⟨R, 1, none⟩ v1).setCell ⟨R, 2, none⟩ v2).setCell ⟨R, 3, none⟩ v3).cell? ⟨R, 0, none⟩ = some v0 ∧ ((((wr.setCell ⟨R, 0, none⟩ v0).setCell ⟨R, 1, none⟩ v1).setCell ⟨R, 2, none⟩ v2).setCell ⟨R, 3, none⟩ v3).cell? ⟨R, 1, none⟩ = some v1 ∧ ((((wr.setCell ⟨R, 0, none⟩ v0).setCell ⟨R, 1, none⟩ v1).setCell ⟨R, 2, none⟩ v2).setCell ⟨R, 3, none⟩ v3).cell? ⟨R, 2, none⟩ = some v2 ∧ ((((wr.setCell ⟨R, 0, none⟩ v0).setCell ⟨R, 1, none⟩ v1).setCell ⟨R, 2, none⟩ v2).setCell ⟨R, 3, none⟩ v3).cell? ⟨R, 3, none⟩ = some v3 := by
 have OF := ((((o.setlow (i := 0) h1 v0).setlow (i := 1) h1 v1).setlow (i := 2) h1 v2).setlow (i := 3) h1 v3).low (show w.heap.size ≤ base by omega)
 have kb := heap_setCell_block (i := 3) (v := v3) (heap_setCell_block (i := 2) (v := v2) (heap_setCell_block (i := 1) (v := v1) (heap_setCell_block (i := 0) (v := v0) hR)))
 have BF := (((low.setCell (p := ⟨R, 0, none⟩) h0 v0).setCell (p := ⟨R, 1, none⟩) h0 v1).setCell (p := ⟨R, 2, none⟩) h0 v2).setCell (p := ⟨R, 3, none⟩) h0 v3
 exact ⟨OF, BF, cell_of_block kb 0 v0 rfl, cell_of_block kb 1 v1 rfl, cell_of_block kb 2 v2 rfl, cell_of_block kb 3 v3 rfl⟩
def cfRel (base : Nat) (c : Cf) (v : Value) (w : World) : Prop := ∃ s0 t0 s1 t1 s2 t2 s3 t3 rv bv, v = .agg #[.slice s0 c.pc.length t0, .slice s1 c.regs.length t1, .slice s2 c.mem.length t2, .slice s3 c.buf.length t3] ∧ OwnC base w (.slice s0 c.pc.length t0) (.slice s1 c.regs.length t1) (.slice s2 c.mem.length t2) (.slice s3 c.buf.length t3) rv bv c
theorem cfRel.more {base : Nat} {c : Cf} {v : Value} {w w' : World} (h : cfRel base c v w) (hb : Below w.heap.size w w') : cfRel base c v w' :=
 let ⟨s0, t0, s1, t1, s2, t2, s3, t3, rv, bv, e, h⟩ := h
 ⟨s0, t0, s1, t1, s2, t2, s3, t3, rv, bv, e, h.more hb⟩
def actRel (base : Nat) (c : Cf) (vs : List Value) (j : Nat) (v : Value) (w : World) : Prop :=
 if j = 16 then ∃ a, v = .tuple #[a, .bool true] ∧ cfRel base c a w else if j = 17 then cfRel base c v w else v = vs.getD j undef
theorem actRel_mono {base : Nat} {c : Cf} {vs : List Value} {j : Nat} {v : Value} {w w' : World} (hb : Below w.heap.size w w') (h : actRel base c vs j v w) : actRel base c vs j v w' := by
 unfold actRel at h ⊢
 split
 ·rename_i e
  rw [if_pos e] at h
  obtain ⟨a, e2, h⟩ := h
  exact ⟨a, e2, h.more hb⟩
 ·rename_i e
  rw [if_neg e] at h
  split
  ·rename_i e3
   rw [if_pos e3] at h
   exact h.more hb
  ·rename_i e3
   rw [if_neg e3] at h
   exact h
set_option maxRecDepth 100000 in
set_option maxHeartbeats 32000000 in
theorem actm_ok (uv cv : Value) (u : PUn) (c : Cf) (model room : Int) (a : Nat) (w : World) (hu : UnV w uv u) (hc : CfV w cv c) (hR : rightU u = true) (hL : UnL u) (hk : CfOk u 1000 c) (ha : a < agN u model) (hmod : model = 1 ∨ model = 2 ∨ model = 3) (hen : enA u c model room a = true) :
  Calls Try.prog 44 #[uv, cv, .int .i64 model, .int .i64 room, .int .i64 (a : Nat)] w fun r w' => ∃ vp vr vm vb rv bv, r = .returned (.tuple #[.agg #[vp, vr, vm, vb], .bool true]) ∧ OwnC w.heap.size w' vp vr vm vb rv bv (actM u c model a) ∧ Below w.heap.size w w' := by
 have hag := agN_le hR model
 have hxx : CfL' c := by
  obtain ⟨-, -, h3, ⟨h4, h5⟩, -, h6⟩ := rightU_iff.1 hR
  refine ⟨by rw [hk.npc]; omega, by rw [hk.nmem]; omega, by rw [hk.nregs]; omega, by rw [hk.nbuf]; omega, fun j hj => ?_, fun j hj => hk.blen j (by rw [← hk.nbuf]; exact hj)⟩
  rw [hk.nregs] at hj
  have h1 := hk.rlen j hj
  have h2 := (rowU_iff.1 (h6 j hj)).1
  omega
 have HA := Lib.hid (fun (w' : World) (hb : Below w.heap.size w w') => (by have := enM_ok uv cv u c model room a w' (hu.below hb) (hc.below hb) hR hL hk ha; rwa [hen] at this : Calls Try.prog 25 #[uv, cv, .int .i64 model, .int .i64 room, .int .i64 (a : Nat)] w' fun r w2 => r = .returned (.bool true) ∧ Below w'.heap.size w' w2))
 have HE := Lib.hid (fun (w' : World) (hb : Below w.heap.size w w') (hlt : a < u.regs.length) (hen' : enT u c model room a = true) => act10_ok uv cv u c model room a w' (hu.below hb) (hc.below hb) hR hL hk hlt hmod hen')
 have HF := Lib.hid (fun (w' : World) (hb : Below w.heap.size w w') (mo loc : Int) (t : Nat) (ht : t < u.regs.length) (hml : mo = 2 ∧ loc = -1 ∨ mo = 3) (hf : flushC c mo t loc = true) => flush_ok cv c mo loc t w' (hc.below hb) hxx (by rw [hk.nbuf]; exact ht) hml hf (by
  have hat := popI_in (c.buf.getD t []) mo loc
  have hf' := hf
  unfold flushC popE at hf'
  have h0 : 0 ≤ popI (c.buf.getD t []) mo loc := of_decide_eq_true hf'
  have e : (popE (c.buf.getD t []) mo loc).2.1 = (c.buf.getD t []).getD (popI (c.buf.getD t []) mo loc).toNat (0, 0) := if_neg (by omega)
  have hm : (popE (c.buf.getD t []) mo loc).2.1 ∈ c.buf.getD t [] := by
   rw [e]
   generalize hb : c.buf.getD t [] = b at *
   simp [List.getD, show (popI b mo loc).toNat < b.length by omega]
  have := (hk.ens t ht _ hm).1
  rw [hk.nmem]
  exact this))
 obtain ⟨-, -, h3, ⟨h4, h5⟩, -, -⟩ := rightU_iff.1 hR
 obtain ⟨ia, ic, ga, gc, ca, cc, rfl, -⟩ := hu.var
 obtain ⟨pa, pc, ra, rc, ma, mc, ba, bc, rfl, -⟩ := hc.var
 have S0 := Lib.hid (Bx2.start w #[.int .i64 u.mod, .slice ia u.init.length ic, .slice ga u.regs.length gc, .slice ca u.code.length cc] 25 #[.slice pa c.pc.length pc, .slice ra c.regs.length rc, .slice ma c.mem.length mc, .slice ba c.buf.length bc] 52)
 have hAG : ∀ m, agN u m = if m = 1 then u.regs.length else if m = 2 then 2 * u.regs.length else if m = 3 then u.regs.length + u.regs.length * u.init.length else 0 := fun m => rfl
 have HAG := Lib.hid hAG
 have HEA := Lib.hid hen
 clear hu hc hk hL hR hAG hxx hmod hen
 generalize hw2 : (w.alloc (.cells #[.int .i64 u.mod, .slice ia u.init.length ic, .slice ga u.regs.length gc, .slice ca u.code.length cc] 25)).alloc (.cells #[.slice pa c.pc.length pc, .slice ra c.regs.length rc, .slice ma c.mem.length mc, .slice ba c.buf.length bc] 52) = w2 at *
 have HR0 := Lib.hid (heap_alloc_new w2 (.cells #[.slice none 0 0, .slice none 0 0, .slice none 0 0, .slice none 0 0] 52))
 have S0 := Lib.hid (S0.out.more (balloc w2 (.cells #[.slice none 0 0, .slice none 0 0, .slice none 0 0, .slice none 0 0] 52)))
 have HRS : Hid (w2.heap.size + 1 = (w2.alloc (.cells #[.slice none 0 0, .slice none 0 0, .slice none 0 0, .slice none 0 0] 52)).heap.size ∧ w.heap.size ≤ w2.heap.size) := Lib.hid ⟨by simp, by have h1 := S0.out.below.size; simp only [alloc_size] at h1; have h2 := (Array.getElem?_eq_some_iff.1 HR0.out).1; rw [← hw2]; simp only [alloc_size]; omega⟩
 generalize hw2b : w2.alloc (.cells #[.slice none 0 0, .slice none 0 0, .slice none 0 0, .slice none 0 0] 52) = w2b at *
 have i0 := cell_of_block S0.out.blk1 0 (.int .i64 u.mod) rfl
 have i1 := cell_of_block S0.out.blk1 1 (.slice ia u.init.length ic) rfl
 have i2 := cell_of_block S0.out.blk1 2 (.slice ga u.regs.length gc) rfl
 have i3 := cell_of_block S0.out.blk1 3 (.slice ca u.code.length cc) rfl
 have l0 := cell_of_block S0.out.blk2 0 (.slice pa c.pc.length pc) rfl
 have l1 := cell_of_block S0.out.blk2 1 (.slice ra c.regs.length rc) rfl
 have l2 := cell_of_block S0.out.blk2 2 (.slice ma c.mem.length mc) rfl
 have l3 := cell_of_block S0.out.blk2 3 (.slice ba c.buf.length bc) rfl
 by_cases hlt : a < u.regs.length
 ·have hET : enT u c model room a = true := by have := HEA.out; unfold enA at this; rwa [if_pos hlt] at this
  have E : Hid (actM u c model a = actC u c model a) := Lib.hid (if_pos hlt)
  have HE2 := Lib.hid (fun (w' : World) (hb : Below w.heap.size w w') => HE.out w' hb hlt hET)
  generalize actM u c model a = RES at *
  generalize actC u c model a = RS2 at *
  clear HE HF HAG HEA hET
  have z1 : (a : Int) < (u.regs.length : Int) := by omega
  have z2 : (a : Int) < (agN u model : Int) := by omega
  generalize agN u model = ag at *
  go_enter Try.func44, Try.ntmps44
  go_wp2_with (first
   | (go_at_call 69; refine (HE2.out _ S1.out.below).mono ?_; rintro e2 w4 ⟨vp, vr, vm, vb, rv, bv, rfl, hoc, hb2⟩; obtain ⟨s0, t0, rfl⟩ := ownv hoc.pc; obtain ⟨s1, t1, rfl⟩ := ownv hoc.regs.out; obtain ⟨s2, t2, rfl⟩ := ownv hoc.mem; obtain ⟨s3, t3, rfl⟩ := ownv hoc.buf.out; have S2 := Lib.hid (S1.out.more hb2); have OC := Lib.hid hoc; have HR2 := Lib.hid (bheap hb2 HR1.out); clear hb2 hoc; have r0 := cell_of_block HR2.out 0 (.slice none 0 0) rfl; have r1 := cell_of_block HR2.out 1 (.slice none 0 0) rfl; have r2 := cell_of_block HR2.out 2 (.slice none 0 0) rfl; have r3 := cell_of_block HR2.out 3 (.slice none 0 0) rfl; have g0 := free_of_block HR2.out 0; have g1 := free_of_block HR2.out 1; have g2 := free_of_block HR2.out 2; have g3 := free_of_block HR2.out 3)
   | (go_at_call 25; refine (HA.out _ S0.out.below).mono ?_; rintro e1 w3 ⟨rfl, hb1⟩; have S1 := Lib.hid (S0.out.more hb1); have HR1 := Lib.hid (bheap hb1 HR0.out); have HS1 := Lib.hid hb1.size; clear hb1 i0 i1 i2 i3 l0 l1 l2 l3; have i0 := cell_of_block S1.out.blk1 0 _ rfl; have i1 := cell_of_block S1.out.blk1 1 _ rfl; have i2 := cell_of_block S1.out.blk1 2 _ rfl; have i3 := cell_of_block S1.out.blk1 3 _ rfl; have l0 := cell_of_block S1.out.blk2 0 _ rfl; have l1 := cell_of_block S1.out.blk2 1 _ rfl; have l2 := cell_of_block S1.out.blk2 2 _ rfl; have l3 := cell_of_block S1.out.blk2 3 _ rfl))
  obtain ⟨OF, BF, y0, y1, y2, y3⟩ := conf_end S2.out.below HR2.out HRS.out.2 (by have h1 := HRS.out.1; have h2 := HS1.out; omega) OC.out
  refine bodyPost_ret (v := .tuple #[.agg #[.slice s0 RS2.pc.length t0, .slice s1 RS2.regs.length t1, .slice s2 RS2.mem.length t2, .slice s3 RS2.buf.length t3], .bool true]) (by simp [results, Try.results44, go_sem, y0, y1, y2, y3]) rfl ?_
  rw [E.out]
  first
   | exact ⟨_, _, _, _, rfl, ⟨_, _, OF⟩, BF⟩
   | exact ⟨_, _, _, _, _, _, rfl, OF, BF⟩
 obtain ⟨k, rfl⟩ : ∃ k, a = u.regs.length + k := ⟨a - u.regs.length, by omega⟩
 have z1 : ¬ ((u.regs.length + k : Nat) : Int) < (u.regs.length : Int) := by omega
 have z1' : (u.regs.length : Int) ≤ (u.regs.length : Int) + (k : Int) := by omega
 have z2 : (u.regs.length : Int) + (k : Int) < (agN u model : Int) := by omega
 have hk0 : 0 ≤ (u.regs.length : Int) + (k : Int) := by omega
 have W1 : IntKind.i64.wrap ((u.regs.length : Int) + (k : Int) - (u.regs.length : Int)) = (k : Int) := by rw [IntWalk.i64_in _ (by omega)]; omega
 have hen : (if model = 2 then flushC c 2 k (-1) else flushC c 3 (k / u.init.length) ((k % u.init.length : Nat) : Int)) = true := by
  have := HEA.out
  unfold enA at this
  rwa [if_neg hlt, Nat.add_sub_cancel_left] at this
 have hac : actM u c model (u.regs.length + k) = if model = 2 then flushD c 2 k (-1) else flushD c 3 (k / u.init.length) ((k % u.init.length : Nat) : Int) := by
  unfold actM
  rw [if_neg hlt, Nat.add_sub_cancel_left]
 have HEN := Lib.hid hac
 generalize actM u c model (u.regs.length + k) = RES at *
 clear hac HE hlt HEA
 have n1 : model ≠ 1 := fun e => by
  have := HAG.out model
  rw [if_pos e] at this
  omega
 by_cases h2 : model = 2
 ·have hkn : k < u.regs.length := by
   have := HAG.out model
   rw [if_neg n1, if_pos h2] at this
   omega
  subst h2
  have E := Lib.hid (HEN.out.trans (if_pos rfl))
  rw [if_pos rfl] at hen
  have HF2 := Lib.hid (fun (w' : World) (hb : Below w.heap.size w w') => HF.out w' hb 2 (-1) k hkn (.inl ⟨rfl, rfl⟩) hen)
  clear hen
  generalize flushD c 2 k (-1) = FL at *
  clear HF HEN HAG n1
  generalize agN u 2 = ag at *
  go_enter Try.func44, Try.ntmps44
  go_wp2_with (first
   | (go_at_call 70; refine (HF2.out _ S1.out.below).mono ?_; rintro e2 w4 ⟨vp, vr, vm, vb, rv, bv, rfl, hoc, hb2⟩; obtain ⟨s0, t0, rfl⟩ := ownv hoc.pc; obtain ⟨s1, t1, rfl⟩ := ownv hoc.regs.out; obtain ⟨s2, t2, rfl⟩ := ownv hoc.mem; obtain ⟨s3, t3, rfl⟩ := ownv hoc.buf.out; have S2 := Lib.hid (S1.out.more hb2); have OC := Lib.hid hoc; have HR2 := Lib.hid (bheap hb2 HR1.out); clear hb2 hoc; have r0 := cell_of_block HR2.out 0 (.slice none 0 0) rfl; have r1 := cell_of_block HR2.out 1 (.slice none 0 0) rfl; have r2 := cell_of_block HR2.out 2 (.slice none 0 0) rfl; have r3 := cell_of_block HR2.out 3 (.slice none 0 0) rfl; have g0 := free_of_block HR2.out 0; have g1 := free_of_block HR2.out 1; have g2 := free_of_block HR2.out 2; have g3 := free_of_block HR2.out 3)
   | (go_at_call 25; refine (HA.out _ S0.out.below).mono ?_; rintro e1 w3 ⟨rfl, hb1⟩; have S1 := Lib.hid (S0.out.more hb1); have HR1 := Lib.hid (bheap hb1 HR0.out); have HS1 := Lib.hid hb1.size; clear hb1 i0 i1 i2 i3 l0 l1 l2 l3; have i0 := cell_of_block S1.out.blk1 0 _ rfl; have i1 := cell_of_block S1.out.blk1 1 _ rfl; have i2 := cell_of_block S1.out.blk1 2 _ rfl; have i3 := cell_of_block S1.out.blk1 3 _ rfl; have l0 := cell_of_block S1.out.blk2 0 _ rfl; have l1 := cell_of_block S1.out.blk2 1 _ rfl; have l2 := cell_of_block S1.out.blk2 2 _ rfl; have l3 := cell_of_block S1.out.blk2 3 _ rfl))
  obtain ⟨OF, BF, y0, y1, y2, y3⟩ := conf_end S2.out.below HR2.out HRS.out.2 (by have h1 := HRS.out.1; have h2 := HS1.out; omega) OC.out
  refine bodyPost_ret (v := .tuple #[.agg #[.slice s0 FL.pc.length t0, .slice s1 FL.regs.length t1, .slice s2 FL.mem.length t2, .slice s3 FL.buf.length t3], .bool true]) (by simp [results, Try.results44, go_sem, y0, y1, y2, y3]) rfl ?_
  rw [E.out]
  first
   | exact ⟨_, _, _, _, rfl, ⟨_, _, OF⟩, BF⟩
   | exact ⟨_, _, _, _, _, _, rfl, OF, BF⟩
 ·have h3' : model = 3 := by
   have := HAG.out model
   rw [if_neg n1, if_neg h2] at this
   by_cases h : model = 3
   ·exact h
   ·rw [if_neg h] at this; omega
  have E := Lib.hid (HEN.out.trans (if_neg h2))
  have hkm : k < u.regs.length * u.init.length := by
   have := HAG.out model
   rw [if_neg n1, if_neg h2, if_pos h3'] at this
   omega
  have hm0 : 0 < u.init.length := by
   rcases Nat.eq_zero_or_pos u.init.length with h | h
   ·rw [h, Nat.mul_zero] at hkm; omega
   ·exact h
  have hdn : k / u.init.length < u.regs.length := Nat.div_lt_of_lt_mul (by rw [Nat.mul_comm]; exact hkm)
  subst h3'
  rw [if_neg h2] at hen
  have HF3 := Lib.hid (fun (w' : World) (hb : Below w.heap.size w w') => HF.out w' hb 3 ((k % u.init.length : Nat) : Int) (k / u.init.length) hdn (.inr rfl) hen)
  clear hen
  have T1 : (k : Int).tdiv (u.init.length : Int) = ((k / u.init.length : Nat) : Int) := by rw [Int.tdiv_eq_ediv_of_nonneg (by omega)]; rfl
  have T2 : (k : Int).tmod (u.init.length : Int) = ((k % u.init.length : Nat) : Int) := by rw [Int.tmod_eq_emod_of_nonneg (by omega)]; rfl
  have hdk : k / u.init.length ≤ k := Nat.div_le_self _ _
  have nz : ((u.init.length : Int) == 0) = false := beq_false_of_ne (by omega)
  have nz2 : ¬ u.init = [] := fun e => by rw [e] at hm0; simp at hm0
  clear HF HEN HAG n1 h2 hkm hdn
  generalize k / u.init.length = kd at *
  have W2 : IntKind.i64.wrap (kd : Int) = (kd : Int) := IntWalk.i64_in _ (by omega)
  generalize k % u.init.length = km at *
  generalize flushD c 3 kd (km : Int) = FL at *
  generalize agN u 3 = ag at *
  go_enter Try.func44, Try.ntmps44
  go_wp2_with (go_at_call 25; refine (HA.out _ S0.out.below).mono ?_; rintro e1 w3 ⟨rfl, hb1⟩; have S1 := Lib.hid (S0.out.more hb1); have HR1 := Lib.hid (bheap hb1 HR0.out); have HS1 := Lib.hid hb1.size; clear hb1 i0 i1 i2 i3 l0 l1 l2 l3; have i0 := cell_of_block S1.out.blk1 0 _ rfl; have i1 := cell_of_block S1.out.blk1 1 _ rfl; have i2 := cell_of_block S1.out.blk1 2 _ rfl; have i3 := cell_of_block S1.out.blk1 3 _ rfl; have l0 := cell_of_block S1.out.blk2 0 _ rfl; have l1 := cell_of_block S1.out.blk2 1 _ rfl; have l2 := cell_of_block S1.out.blk2 2 _ rfl; have l3 := cell_of_block S1.out.blk2 3 _ rfl)
  refine region_rel_tail 19 (fun _ => undef)
   (fun f => { tmps := #[.agg #[.int .i64 u.mod, .slice ia u.init.length ic, .slice ga u.regs.length gc, .slice ca u.code.length cc], .agg #[.slice pa c.pc.length pc, .slice ra c.regs.length rc, .slice ma c.mem.length mc, .slice ba c.buf.length bc], .int .i64 3, .int .i64 room, .int .i64 ((u.regs.length : Int) + (k : Int)), .pointer (some ⟨w.heap.size, 0, none⟩), .pointer (some ⟨w.heap.size + 1, 0, none⟩), undef, undef, undef, .pointer (some ⟨w2.heap.size, 0, none⟩), .bool false, .int .i64 (u.regs.length : Nat), .pointer (some ⟨w.heap.size, 2, none⟩), .slice ga u.regs.length gc, .int .i64 (u.regs.length : Nat), .agg #[.int .i64 u.mod, .slice ia u.init.length ic, .slice ga u.regs.length gc, .slice ca u.code.length cc], .agg #[.slice pa c.pc.length pc, .slice ra c.regs.length rc, .slice ma c.mem.length mc, .slice ba c.buf.length bc], .int .i64 3, .int .i64 room, .int .i64 ((u.regs.length : Int) + (k : Int)), .bool true, .bool false, undef, undef, .int .i64 ((u.regs.length : Int) + (k : Int)), .int .i64 (u.regs.length : Nat), .bool (decide ((u.regs.length : Int) + (k : Int) < (u.regs.length : Int))), undef, undef, undef, undef, undef, undef, undef, undef, .int .i64 3, .bool false, undef, undef, undef, undef, undef, undef, undef, undef, f 46, f 47, f 48, f 49, f 50, f 51, f 52, f 53, f 54, f 55, f 56, f 57, f 58, f 59, f 60, f 61, f 62, f 63, f 64], defers := [] }) (fun j => j + 46)
   (actRel w3.heap.size FL [(.agg #[.slice pa c.pc.length pc, .slice ra c.regs.length rc, .slice ma c.mem.length mc, .slice ba c.buf.length bc]), (.int .i64 3), (.int .i64 ((u.regs.length : Int) + (k : Int))), (.int .i64 (u.regs.length : Nat)), (.int .i64 (k : Nat)), (.pointer (some ⟨w.heap.size, 1, none⟩)), (.slice ia u.init.length ic), (.int .i64 (u.init.length : Nat)), (.int .i64 (kd : Nat)), (.int .i64 ((u.regs.length : Int) + (k : Int))), (.int .i64 (u.regs.length : Nat)), (.int .i64 (k : Nat)), (.pointer (some ⟨w.heap.size, 1, none⟩)), (.slice ia u.init.length ic), (.int .i64 (u.init.length : Nat)), (.int .i64 (km : Nat)), undef, undef, (.bool true)])
   rfl (by kernel_rfl) (by kernel_rfl) (by kernel_rfl) (by decide) (by kernel_rfl) (fun i u w w' hb h => actRel_mono hb h) (by kernel_rfl) (by kernel_rfl) ?_ ?_ ?_
  ·intro j hj f v
   rcases j with _ | _ | _ | _ | _ | _ | _ | _ | _ | _ | _ | _ | _ | _ | _ | _ | _ | _ | _ | j
   all_goals first | rfl | omega | (simp at hj; omega)
  ·refine ⟨?_, ?_, ?_, ?_, ?_, ?_, ?_, ?_, ?_, ?_, ?_, ?_, ?_, ?_, ?_, ?_, ?_, ?_, ?_, trivial⟩
   ·intro f w' hb hd K hK
    have e0 := bkeep hb l0
    have e1 := bkeep hb l1
    have e2 := bkeep hb l2
    have e3 := bkeep hb l3
    dsimp only
    go_simp
    exact hK (.agg #[.slice pa c.pc.length pc, .slice ra c.regs.length rc, .slice ma c.mem.length mc, .slice ba c.buf.length bc]) w' (Below.refl _ _) rfl
   ·intro f w' hb hd K hK
    dsimp only
    go_simp
    exact hK (.int .i64 3) w' (Below.refl _ _) rfl
   ·intro f w' hb hd K hK
    dsimp only
    go_simp
    exact hK (.int .i64 ((u.regs.length : Int) + (k : Int))) w' (Below.refl _ _) rfl
   ·intro f w' hb hd K hK
    dsimp only
    go_simp
    exact hK (.int .i64 (u.regs.length : Nat)) w' (Below.refl _ _) rfl
   ·intro f w' hb hd K hK
    have h2 : f 48 = (.int .i64 ((u.regs.length : Int) + (k : Int))) := hd 2 (by kernel_rfl)
    have h3 : f 49 = (.int .i64 (u.regs.length : Nat)) := hd 3 (by kernel_rfl)
    dsimp only
    go_simp
    have q := hK (.int .i64 (k : Nat)) w' (Below.refl _ _) rfl
    simp only [h2, h3] at q
    exact q
   ·intro f w' hb hd K hK
    dsimp only
    go_simp
    exact hK (.pointer (some ⟨w.heap.size, 1, none⟩)) w' (Below.refl _ _) rfl
   ·intro f w' hb hd K hK
    have h5 : f 51 = (.pointer (some ⟨w.heap.size, 1, none⟩)) := hd 5 (by kernel_rfl)
    have e0 := bkeep hb i1
    dsimp only
    go_simp
    have q := hK (.slice ia u.init.length ic) w' (Below.refl _ _) rfl
    simp only [h5] at q
    exact q
   ·intro f w' hb hd K hK
    have h6 : f 52 = (.slice ia u.init.length ic) := hd 6 (by kernel_rfl)
    dsimp only
    go_simp
    have q := hK (.int .i64 (u.init.length : Nat)) w' (Below.refl _ _) rfl
    simp only [h6] at q
    exact q
   ·intro f w' hb hd K hK
    have h4 : f 50 = (.int .i64 (k : Nat)) := hd 4 (by kernel_rfl)
    have h7 : f 53 = (.int .i64 (u.init.length : Nat)) := hd 7 (by kernel_rfl)
    dsimp only
    go_simp
    have q := hK (.int .i64 (kd : Nat)) w' (Below.refl _ _) rfl
    simp only [h4, h7] at q
    exact q
   ·intro f w' hb hd K hK
    dsimp only
    go_simp
    exact hK (.int .i64 ((u.regs.length : Int) + (k : Int))) w' (Below.refl _ _) rfl
   ·intro f w' hb hd K hK
    dsimp only
    go_simp
    exact hK (.int .i64 (u.regs.length : Nat)) w' (Below.refl _ _) rfl
   ·intro f w' hb hd K hK
    have h9 : f 55 = (.int .i64 ((u.regs.length : Int) + (k : Int))) := hd 9 (by kernel_rfl)
    have h10 : f 56 = (.int .i64 (u.regs.length : Nat)) := hd 10 (by kernel_rfl)
    dsimp only
    go_simp
    have q := hK (.int .i64 (k : Nat)) w' (Below.refl _ _) rfl
    simp only [h9, h10] at q
    exact q
   ·intro f w' hb hd K hK
    dsimp only
    go_simp
    exact hK (.pointer (some ⟨w.heap.size, 1, none⟩)) w' (Below.refl _ _) rfl
   ·intro f w' hb hd K hK
    have h12 : f 58 = (.pointer (some ⟨w.heap.size, 1, none⟩)) := hd 12 (by kernel_rfl)
    have e0 := bkeep hb i1
    dsimp only
    go_simp
    have q := hK (.slice ia u.init.length ic) w' (Below.refl _ _) rfl
    simp only [h12] at q
    exact q
   ·intro f w' hb hd K hK
    have h13 : f 59 = (.slice ia u.init.length ic) := hd 13 (by kernel_rfl)
    dsimp only
    go_simp
    have q := hK (.int .i64 (u.init.length : Nat)) w' (Below.refl _ _) rfl
    simp only [h13] at q
    exact q
   ·intro f w' hb hd K hK
    have h11 : f 57 = (.int .i64 (k : Nat)) := hd 11 (by kernel_rfl)
    have h14 : f 60 = (.int .i64 (u.init.length : Nat)) := hd 14 (by kernel_rfl)
    dsimp only
    go_simp
    have q := hK (.int .i64 (km : Nat)) w' (Below.refl _ _) rfl
    simp only [h11, h14] at q
    exact q
   ·intro f w' hb hd K hK
    have h0 : f 46 = (.agg #[.slice pa c.pc.length pc, .slice ra c.regs.length rc, .slice ma c.mem.length mc, .slice ba c.buf.length bc]) := hd 0 (by kernel_rfl)
    have h1 : f 47 = (.int .i64 3) := hd 1 (by kernel_rfl)
    have h8 : f 54 = (.int .i64 (kd : Nat)) := hd 8 (by kernel_rfl)
    have h15 : f 61 = (.int .i64 (km : Nat)) := hd 15 (by kernel_rfl)
    have HO2 := Lib.hid (HF3.out w' (S1.out.below.trans (((Below.refl _ w3).drew.trans hb).mono S1.out.below.size)))
    have hsz : w3.heap.size ≤ w'.heap.size := hb.size
    dsimp only
    go_simp
    go_wp2_with (go_at_call 70; refine HO2.out.mono ?_; rintro e w2 ⟨vp, vr, vm, vb, rv, bv, rfl, hoc, hb2⟩; obtain ⟨s0, t0, rfl⟩ := ownv hoc.pc; obtain ⟨s1, t1, rfl⟩ := ownv hoc.regs.out; obtain ⟨s2, t2, rfl⟩ := ownv hoc.mem; obtain ⟨s3, t3, rfl⟩ := ownv hoc.buf.out)
    have q := hK _ w2 hb2 ⟨_, rfl, s0, t0, s1, t1, s2, t2, s3, t3, rv, bv, rfl, hoc.low hsz⟩
    simp only [h0, h1, h8, h15] at q
    exact q
   ·intro f w' hb hd K hK
    obtain ⟨a, h16, ha⟩ : ∃ a, f 62 = .tuple #[a, .bool true] ∧ cfRel w3.heap.size FL a w' := hd 16 (by kernel_rfl)
    dsimp only
    go_simp
    have q := hK a w' (Below.refl _ _) ha
    simp only [h16] at q
    exact q
   ·intro f w' hb hd K hK
    obtain ⟨a, h16, ha⟩ : ∃ a, f 62 = .tuple #[a, .bool true] ∧ cfRel w3.heap.size FL a w' := hd 16 (by kernel_rfl)
    dsimp only
    go_simp
    have q := hK (.bool true) w' (Below.refl _ _) rfl
    simp only [h16] at q
    exact q
  intro f w4 hb4 hr
  obtain ⟨s0, t0, s1, t1, s2, t2, s3, t3, rv, bv, h63, hoc⟩ : cfRel w3.heap.size FL (f 63) w4 := hr 17 (by decide)
  have h64 : f 64 = .bool true := hr 18 (by decide)
  clear hr
  simp only [h63, h64, List.drop_succ_cons, List.drop_zero]
  generalize f 46 = x46
  generalize f 47 = x47
  generalize f 48 = x48
  generalize f 49 = x49
  generalize f 50 = x50
  generalize f 51 = x51
  generalize f 52 = x52
  generalize f 53 = x53
  generalize f 54 = x54
  generalize f 55 = x55
  generalize f 56 = x56
  generalize f 57 = x57
  generalize f 58 = x58
  generalize f 59 = x59
  generalize f 60 = x60
  generalize f 61 = x61
  generalize f 62 = x62
  have S2 := Lib.hid (S1.out.more hb4)
  have OC := Lib.hid hoc
  have HR2 := Lib.hid (bheap hb4 HR1.out)
  clear hb4 hoc i0 i1 i2 i3 l0 l1 l2 l3
  have r0 := cell_of_block HR2.out 0 (.slice none 0 0) rfl
  have r1 := cell_of_block HR2.out 1 (.slice none 0 0) rfl
  have r2 := cell_of_block HR2.out 2 (.slice none 0 0) rfl
  have r3 := cell_of_block HR2.out 3 (.slice none 0 0) rfl
  have g0 := free_of_block HR2.out 0
  have g1 := free_of_block HR2.out 1
  have g2 := free_of_block HR2.out 2
  have g3 := free_of_block HR2.out 3
  go_wp2_with fail
  obtain ⟨OF, BF, y0, y1, y2, y3⟩ := conf_end S2.out.below HR2.out HRS.out.2 (by have h1 := HRS.out.1; have h2 := HS1.out; omega) OC.out
  refine bodyPost_ret (v := .tuple #[.agg #[.slice s0 FL.pc.length t0, .slice s1 FL.regs.length t1, .slice s2 FL.mem.length t2, .slice s3 FL.buf.length t3], .bool true]) (by simp [results, Try.results44, go_sem, y0, y1, y2, y3]) rfl ?_
  rw [E.out]
  first
   | exact ⟨_, _, _, _, rfl, ⟨_, _, OF⟩, BF⟩
   | exact ⟨_, _, _, _, _, _, rfl, OF, BF⟩
end Go.Proofs.Ytlhpjfnfemebdaa
