/-
  All that can be reached: explore's All, the document's. (Written by gen_all.py.)
-/
import Derived.Test.YtlhpjfnfemebdaaJSpM
import Derived.Test.YtlhpjfnfemebdaaJMachT
import Derived.Test.YtlhpjfnfemebdaaJCovP
namespace Go.Proofs.Ytlhpjfnfemebdaa
open Go.RowKit
theorem infoConf : (Try.prog.info? 52).map (fun i => (i.zero, i.size, i.bytes)) = some (some (.agg #[.slice none 0 0, .slice none 0 0, .slice none 0 0, .slice none 0 0]), 4, 96) := by kernel_rfl
theorem infoEdge : (Try.prog.info? 65).map (fun i => (i.zero, i.size, i.bytes)) = some (some (.agg #[.int .i64 0, .int .i64 0, .int .i64 0]), 3, 24) := by kernel_rfl
def byRel (base : Nat) (x : Int) (vs : List Value) (j : Nat) (v : Value) (w : World) : Prop :=
 if j = 6 then ∃ b, v = .slice (some ⟨b, 0, none⟩) 1 1 ∧ base ≤ b ∧ w.heap[b]? = some (.cells #[.int .i64 x] 3 (0, 0)) else v = vs.getD j undef
theorem byRel_mono {base : Nat} {x : Int} {vs : List Value} {j : Nat} {v : Value} {w w' : World} (hb : Below w.heap.size w w') (h : byRel base x vs j v w) : byRel base x vs j v w' := by
 unfold byRel at h ⊢
 split
 ·rename_i e
  rw [if_pos e] at h
  obtain ⟨b, e2, h3, h4⟩ := h
  exact ⟨b, e2, h3, bheap hb h4⟩
 ·rename_i e
  rw [if_neg e] at h
  exact h
theorem byRel6 {base : Nat} {x : Int} {vs : List Value} {w' : World} (h : base ≤ w'.heap.size) : byRel base x vs 6 (.slice (some ⟨w'.heap.size, 0, none⟩) 1 1) (w'.alloc (.cells #[.int .i64 x] 3)) := ⟨w'.heap.size, rfl, h, heap_alloc_new w' _⟩
def AllR (w : World) (R : Option Sp) (r : Ending) (w' : World) : Prop :=
 (match R with
  | none => r = .returned (.tuple #[.agg #[.slice none 0 0, .slice none 0 0, .slice none 0 0, .slice none 0 0, .slice none 0 0, .slice none 0 0], .int .i64 18])
  | some s => ∃ v, r = .returned (.tuple #[v, .int .i64 0]) ∧ SpV w' v s ∧ SpT (fun q => q < w.heap.size) w' v s) ∧ Below w.heap.size w w'
set_option maxRecDepth 100000 in
set_option maxHeartbeats 64000000 in
theorem allsp_ok (uv : Value) (u : PUn) (model room budget : Int) (w : World) (hu : UnV w uv u) (hR : rightU u = true) (hL : UnL u) (h1 : 1 ≤ model ∧ model ≤ 3) (h2 : 1 ≤ room ∧ room ≤ 4) (h3 : 1 ≤ budget ∧ budget ≤ 500) :
  Calls Try.prog 27 #[uv, .int .i64 model, .int .i64 room, .int .i64 budget] w (AllR w (allS u model room budget)) := by
 obtain ⟨i0, hi0, hz0, hz1, hz2⟩ := info_parts Try.info3
 obtain ⟨i5, hi5, hv0, hv1, hv2⟩ := info_parts infoConf
 obtain ⟨i6, hi6, hx0, hx1, hx2⟩ := info_parts infoEdge
 have HST := Lib.hid (fun (w' : World) (hb : Below w.heap.size w w') => start_ok uv u w' (hu.below hb) hR hL)
 have HI0 : Hid (SpI u model room budget 0 0 (startS u)) := Lib.hid (SpI.start hR h3.1)
 obtain ⟨R, hRR⟩ : ∃ R, R = allS u model room budget := ⟨_, rfl⟩
 have HALL : Hid (R = allK u model room budget (budget.toNat + 1) 0 (startS u)) := Lib.hid hRR
 rw [← hRR]
 clear hRR
 unfold startS at HI0 HALL
 obtain ⟨ia, ic, ga, gc, ca, cc, rfl, -⟩ := hu.var
 obtain ⟨h10, h11⟩ := h1
 obtain ⟨h20, h21⟩ := h2
 obtain ⟨h30, h31⟩ := h3
 have HU := Lib.hid hu
 have HRU := Lib.hid hR
 have HUL := Lib.hid hL
 clear hu hR hL
 generalize startC u = C0 at *
 have S0 := Lib.hid (Bx2.start w #[.int .i64 u.mod, .slice ia u.init.length ic, .slice ga u.regs.length gc, .slice ca u.code.length cc] 25 #[.slice none 0 0, .slice none 0 0, .slice none 0 0, .slice none 0 0, .slice none 0 0, .slice none 0 0] 32)
 go_enter Try.func27, Try.ntmps27
 go_wp2_with (first
  | (at_builtin; refine wpList_append_lies ((w6.setCell ⟨(w1.heap.size + 1), 4, none⟩ (.slice (some ⟨g6, 0, none⟩) 1 cap6)).alloc (.cells #[.int .i64 (-1)] 3)) rfl (.tmp 66) (.tmp 67) 22 rfl ((w1.heap.size + 1) + 1) 3 i0 (.int .i64 0) 1 8 Try.underlying22 hi0 hz0 hz1 hz2 rfl (by decide) (.slice none 0 0) 0 [] rfl (World.ownsRow_nil _ _ _ _) ⟨w6.heap.size, 0, none⟩ 1 1 [.int .i64 (-1)] rfl rfl (World.news_of_block (by rw [← HS6.out]; exact heap_alloc_new _ _)) (by simp [Value.oneCell']) (by omega) (by unfold maxLen; omega) (by omega) (by have := M6.out.size; simp only [alloc_size]; omega) ((w6.setCell ⟨(w1.heap.size + 1), 4, none⟩ (.slice (some ⟨g6, 0, none⟩) 1 cap6)).heap.size + 1) (by simp) ?_; intro g7 cap7 w7 hown7 hgr7 hor7 hlt7; have M7 := Lib.hid ((M6.out.more (balloc _ (.cells #[.int .i64 (-1)] 3))).growA (vA' := .slice (some ⟨g7, 0, none⟩) 1 cap7) (x := -1) hgr7 hown7 (own_hor (n := 1) (cap := cap7) hor7 (by simp only [alloc_size]; omega))); have B7 := Lib.hid (M6.out.more (balloc _ (.cells #[.int .i64 (-1)] 3))); have K7 := Lib.hid (B7.out.base (v := .slice none 0 0) (by simp) hgr7); clear hown7 hgr7 hor7 hlt7 M6 HS6 d5 f5; have d5 := cell_of_block K7.out.2.2.2 5 (.slice none 0 0) rfl; have f5 := free_of_block K7.out.2.2.2 5; clear K7 B7)
  | (at_builtin; refine wpList_append_lies ((w5.setCell ⟨(w1.heap.size + 1), 0, none⟩ (.slice (some ⟨g5, 0, none⟩) 1 cap5)).alloc (.cells #[.int .i64 (-1)] 3)) rfl (.tmp 61) (.tmp 62) 22 rfl ((w1.heap.size + 1) + 1) 3 i0 (.int .i64 0) 1 8 Try.underlying22 hi0 hz0 hz1 hz2 rfl (by decide) (.slice none 0 0) 0 [] rfl (World.ownsRow_nil _ _ _ _) ⟨w5.heap.size, 0, none⟩ 1 1 [.int .i64 (-1)] rfl rfl (World.news_of_block (by rw [← HS5.out]; exact heap_alloc_new _ _)) (by simp [Value.oneCell']) (by omega) (by unfold maxLen; omega) (by omega) (by have := M5.out.size; simp only [alloc_size]; omega) ((w5.setCell ⟨(w1.heap.size + 1), 0, none⟩ (.slice (some ⟨g5, 0, none⟩) 1 cap5)).heap.size + 1) (by simp) ?_; intro g6 cap6 w6 hown6 hgr6 hor6 hlt6; have M6 := Lib.hid ((M5.out.more (balloc _ (.cells #[.int .i64 (-1)] 3))).growP (vP' := .slice (some ⟨g6, 0, none⟩) 1 cap6) (x := -1) hgr6 hown6 (own_hor (n := 1) (cap := cap6) hor6 (by simp only [alloc_size]; omega))); have HS6 : Hid ((w6.setCell ⟨(w1.heap.size + 1), 4, none⟩ (.slice (some ⟨g6, 0, none⟩) 1 cap6)).heap.size = w6.heap.size) := Lib.hid (by simp); have B6 := Lib.hid (M5.out.more (balloc _ (.cells #[.int .i64 (-1)] 3))); have K6 := Lib.hid (B6.out.base (v := .slice none 0 0) (by simp) hgr6); clear hown6 hgr6 hor6 hlt6 M5 HS5 d4; have d4 := cell_of_block K6.out.2.2.2 4 (.slice none 0 0) rfl; have f4 := free_of_block K6.out.2.2.2 4; have d5 := cell_of_block M6.out.bs 5 (.slice none 0 0) rfl; have f5 := free_of_block M6.out.bs 5; clear K6 B6)
  | (at_builtin; refine wpList_append_lies (((w1.alloc (.cells #[.slice sp C0.pc.length kp, .slice sr C0.regs.length kr, .slice sm C0.mem.length km, .slice sb C0.buf.length kb] 52)).alloc (.cells #[.slice none 0 0, .slice none 0 0, .slice none 0 0, .slice none 0 0, .slice none 0 0, .slice none 0 0] 32)).alloc (.cells #[.slice sp C0.pc.length kp, .slice sr C0.regs.length kr, .slice sm C0.mem.length km, .slice sb C0.buf.length kb] 52)) rfl (.tmp 55) (.tmp 57) 28 rfl ((w1.heap.size + 1) + 1) 52 i5 (.agg #[.slice none 0 0, .slice none 0 0, .slice none 0 0, .slice none 0 0]) 4 96 Try.underlying28 hi5 hv0 hv1 hv2 rfl (by decide) (.slice none 0 0) 0 [] rfl (World.ownsRow_nil _ _ _ _) ⟨w1.heap.size + 1 + 1, 0, none⟩ 1 1 [.slice sp C0.pc.length kp, .slice sr C0.regs.length kr, .slice sm C0.mem.length km, .slice sb C0.buf.length kb] rfl rfl (World.news_of_block (by rw [← HS3.out]; exact heap_alloc_new _ _)) (by simp [Value.oneCell']) (by omega) (by unfold maxLen; omega) (by omega) (by have := M3.out.size; simp only [alloc_size]; omega) (((w1.alloc (.cells #[.slice sp C0.pc.length kp, .slice sr C0.regs.length kr, .slice sm C0.mem.length km, .slice sb C0.buf.length kb] 52)).alloc (.cells #[.slice none 0 0, .slice none 0 0, .slice none 0 0, .slice none 0 0, .slice none 0 0, .slice none 0 0] 32)).heap.size + 1) (by simp) ?_; intro g5 cap5 w5 hown5 hgr5 hor5 hlt5; have M4 := Lib.hid (M3.out.more (balloc _ (.cells #[.slice sp C0.pc.length kp, .slice sr C0.regs.length kr, .slice sm C0.mem.length km, .slice sb C0.buf.length kb] 52))); have M5 := Lib.hid (M4.out.growC (vC' := .slice (some ⟨g5, 0, none⟩) 1 cap5) (x := (.slice sp C0.pc.length kp, .slice sr C0.regs.length kr, .slice sm C0.mem.length km, .slice sb C0.buf.length kb)) (d := C0) hgr5 hown5 (own_hor (n := 1) (cap := cap5) hor5 (by simp only [alloc_size]; omega)) (HX3.out.step (bfrm (balloc _ (.cells #[.slice sp C0.pc.length kp, .slice sr C0.regs.length kr, .slice sm C0.mem.length km, .slice sb C0.buf.length kb] 52)) _) (fun _ h => .inl h))); have HS5 : Hid ((w5.setCell ⟨(w1.heap.size + 1), 0, none⟩ (.slice (some ⟨g5, 0, none⟩) 1 cap5)).heap.size = w5.heap.size) := Lib.hid (by simp); have K5 := Lib.hid (M4.out.base (v := .slice none 0 0) (by simp) hgr5); clear hown5 hgr5 hor5 hlt5 M3 M4 HS3 HX3 HE3 e0 e1 e2 e3 d0 f0; have d0 := cell_of_block K5.out.2.2.2 0 (.slice none 0 0) rfl; have f0 := free_of_block K5.out.2.2.2 0; clear K5; have d4 := cell_of_block M5.out.bs 4 (.slice none 0 0) rfl)
  | (go_at_call 42; refine (HST.out _ S0.out.below).mono ?_; rintro e1 w1 ⟨vp, vr, vm, vb, rv, bv, rfl, hoc, hb1⟩; obtain ⟨sp, kp, rfl⟩ := ownv hoc.pc; obtain ⟨sr, kr, rfl⟩ := ownv hoc.regs.out; obtain ⟨sm, km, rfl⟩ := ownv hoc.mem; obtain ⟨sb, kb, rfl⟩ := ownv hoc.buf.out; have S1 := Lib.hid (S0.out.more hb1); have hs1 := hb1.size; have HB3 : Hid (Below w1.heap.size w1 ((w1.alloc (.cells #[.slice sp C0.pc.length kp, .slice sr C0.regs.length kr, .slice sm C0.mem.length km, .slice sb C0.buf.length kb] 52)).alloc (.cells #[.slice none 0 0, .slice none 0 0, .slice none 0 0, .slice none 0 0, .slice none 0 0, .slice none 0 0] 32))) := Lib.hid ((balloc w1 _).trans ((balloc (w1.alloc (.cells #[.slice sp C0.pc.length kp, .slice sr C0.regs.length kr, .slice sm C0.mem.length km, .slice sb C0.buf.length kb] 52)) _).mono (balloc w1 _).size)); have S3 := Lib.hid (S1.out.more HB3.out); have HE3 := Lib.hid (bheap (balloc (w1.alloc (.cells #[.slice sp C0.pc.length kp, .slice sr C0.regs.length kr, .slice sm C0.mem.length km, .slice sb C0.buf.length kb] 52)) (.cells #[.slice none 0 0, .slice none 0 0, .slice none 0 0, .slice none 0 0, .slice none 0 0, .slice none 0 0] 32)) (heap_alloc_new w1 (.cells #[.slice sp C0.pc.length kp, .slice sr C0.regs.length kr, .slice sm C0.mem.length km, .slice sb C0.buf.length kb] 52))); have M3 : Hid (SpM w ((w1.alloc (.cells #[.slice sp C0.pc.length kp, .slice sr C0.regs.length kr, .slice sm C0.mem.length km, .slice sb C0.buf.length kb] 52)).alloc (.cells #[.slice none 0 0, .slice none 0 0, .slice none 0 0, .slice none 0 0, .slice none 0 0, .slice none 0 0] 32)) #[.int .i64 u.mod, .slice ia u.init.length ic, .slice ga u.regs.length gc, .slice ca u.code.length cc] (w1.heap.size + 1) (.slice none 0 0) (.slice none 0 0) (.slice none 0 0) (.slice none 0 0) [] ⟨[], [], [], []⟩) := Lib.hid (SpM.nil S3.out.below S3.out.blk1 S3.out.blk2 (by have := heap_alloc_new (w1.alloc (.cells #[.slice sp C0.pc.length kp, .slice sr C0.regs.length kr, .slice sm C0.mem.length km, .slice sb C0.buf.length kb] 52)) (.cells #[.slice none 0 0, .slice none 0 0, .slice none 0 0, .slice none 0 0, .slice none 0 0, .slice none 0 0] 32); rwa [alloc_size] at this) (by simp only [alloc_size] at hs1; omega)); have HX3 := Lib.hid (hoc.stable2 (F := spF (w.heap.size + 2) (w1.heap.size + 1) (.slice none 0 0) (.slice none 0 0) (.slice none 0 0) (.slice none 0 0)) HB3.out (fun q hq => by rcases hq with e | e | e | e | e; (rcases e with e | e; (right; omega); (left; simp only [alloc_size]; omega)); all_goals cases e)); clear hoc hb1 S0 S1 S3 HB3 hs1 HST; have HS3 : Hid (((w1.alloc (.cells #[.slice sp C0.pc.length kp, .slice sr C0.regs.length kr, .slice sm C0.mem.length km, .slice sb C0.buf.length kb] 52)).alloc (.cells #[.slice none 0 0, .slice none 0 0, .slice none 0 0, .slice none 0 0, .slice none 0 0, .slice none 0 0] 32)).heap.size = w1.heap.size + 1 + 1) := Lib.hid (by simp only [alloc_size]); have e0 := cell_of_block HE3.out 0 (.slice sp C0.pc.length kp) rfl; have e1 := cell_of_block HE3.out 1 (.slice sr C0.regs.length kr) rfl; have e2 := cell_of_block HE3.out 2 (.slice sm C0.mem.length km) rfl; have e3 := cell_of_block HE3.out 3 (.slice sb C0.buf.length kb) rfl; have d0 := cell_of_block M3.out.bs 0 (.slice none 0 0) rfl; have f0 := free_of_block M3.out.bs 0))
 clear d0 f0 d4 f4 d5 f5
 generalize hw8 : w7.setCell ⟨(w1.heap.size + 1), 5, none⟩ (.slice (some ⟨g7, 0, none⟩) 1 cap7) = w8 at *
 clear hw8
 generalize w1.heap.size + 1 = S at *
 go_loopg [13, 14] (budget.toNat + 1) (fun fu q13 q14 wr => ∃ (i : Nat) (s : Sp) (vC vP vA vE : Value) (cvs : List V4), i + fu = budget.toNat + 1 ∧ q14 = .int .i64 i ∧ q13 = vE ∧ Hid (R = allK u model room budget fu i s) ∧ Hid (SpI u model room budget i 0 s) ∧ Hid (SpM w wr #[.int .i64 u.mod, .slice ia u.init.length ic, .slice ga u.regs.length gc, .slice ca u.code.length cc] S vC vP vA vE cvs s))
 case atStart => exact ⟨0, _, _, _, _, _, _, by omega, rfl, rfl, HALL, HI0, M7⟩
 case round =>
  clear HALL HI0 M7
  obtain ⟨i, sO, vCO, vPO, vAO, vEO, cvsO, hk, rfl, hqE, HR, HI, M⟩ := hrel
  have hqE := hqE.symm
  subst hqE
  obtain ⟨va, vcpO, hvc⟩ := ownv M.out.oC
  have hlen := M.out.len
  rw [hlen] at hvc
  subst hvc
  have d0 := cell_of_block M.out.bs 0 (.slice va sO.confs.length vcpO) rfl
  have hle := HI.out.le
  have hrow := HI.out.row
  have hii : i ≤ 600 := by omega
  by_cases hlt : i < sO.confs.length
  ·have z1 : (i : Int) < (sO.confs.length : Int) := by omega
   obtain ⟨f, rfl⟩ : ∃ f, gk = f + 1 := ⟨gk - 1, by omega⟩
   have HR1 : Hid (R = (rowS u model budget i (movS u model room sO i) sO).bind (allK u model room budget f (i + 1))) := Lib.hid (by have := HR.out; rw [allK, if_pos hlt] at this; exact this)
   obtain ⟨xa, xcp, exv, hcs⟩ := M.out.confs
   cases exv
   obtain ⟨b1O, o1O, xpO, xrO, xmO, xbO, rfl, x0, x1, x2, x3, hcf⟩ := hcs i hlt
   have HMV := Lib.hid (fun (w' : World) (hb : Below wr.heap.size wr w') => moves_ok _ _ u (sO.confs.getD i cf0) model room w' (HU.out.below (M.out.low.trans (hb.mono M.out.low.size))) (hcf.below hb) HRU.out HUL.out ((HI.out.ok i hlt).more (by omega)))
   obtain ⟨m, hm⟩ : ∃ m, m = movL u (sO.confs.getD i cf0) model room := ⟨_, rfl⟩
   rw [← hm] at HMV
   have HMS : Hid (movS u model room sO i = m) := Lib.hid hm.symm
   have HM28 : Hid (m.length ≤ 28) := Lib.hid (by rw [hm]; exact Nat.le_trans (movK_len _ _ _ _ _) (agN_le HRU.out model))
   clear hm
   have a0 := cell_of_block M.out.bu 0 (.int .i64 u.mod) rfl
   have a1 := cell_of_block M.out.bu 1 (.slice ia u.init.length ic) rfl
   have a2 := cell_of_block M.out.bu 2 (.slice ga u.regs.length gc) rfl
   have a3 := cell_of_block M.out.bu 3 (.slice ca u.code.length cc) rfl
   have HCL := Lib.hid hcf
   clear HR hcs hcf
   go_wp2_with fail
   refine region_tail 8 (by kernel_rfl) (by kernel_rfl) ?_
   simp only [List.take_succ_cons, List.take_zero, List.drop_succ_cons, List.drop_zero]
   repeat still_step
   refine wpStill_nil ?_
   go_wp2_with (go_at_call 43; refine (HMV.out _ (Below.refl _ wr).drew).mono ?_; rintro e1 w9 ⟨rvm, rfl, hrm, hb9⟩; obtain ⟨ma, mc, rfl⟩ := ownv hrm)
   have hb9' : Below wr.heap.size wr w9 := (Below.refl _ wr).drew.trans hb9
   have M9 := Lib.hid (M.out.more hb9')
   have hm28 := HM28.out
   have IM9 : Hid (IntS (spF (w.heap.size + 2) S (.slice (some ⟨b1O, o1O, none⟩) sO.confs.length vcpO) vPO vAO vEO) w9 (.slice ma m.length mc) m) := Lib.hid (hrm.stable (fun q hq => M.out.spF_lt q hq))
   have HI9 : Hid (SpI u model room budget i 0 sO) := HI
   rw [HMS.out] at HR1
   clear hrm hb9 hb9' HM28 M d0 x0 x1 x2 x3 a0 a1 a2 a3 HCL HMV HI
   go_loopg [13, 16] m.length (fun fu q13 q16 wr => ∃ (k : Nat) (s' : Sp) (vC vP vA vE : Value) (cvs : List V4), k + fu = m.length ∧ q16 = .int .i64 k ∧ q13 = vE ∧ Hid (R = (rowS u model budget i (m.drop k) s').bind (allK u model room budget f (i + 1))) ∧ Hid (SpI u model room budget i k s') ∧ Hid (movS u model room s' i = m ∧ i < s'.confs.length) ∧ Hid (SpM w wr #[.int .i64 u.mod, .slice ia u.init.length ic, .slice ga u.regs.length gc, .slice ca u.code.length cc] S vC vP vA vE cvs s') ∧ Hid (IntS (spF (w.heap.size + 2) S vC vP vA vE) wr (.slice ma m.length mc) m))
   case atStart => exact ⟨0, sO, _, _, _, _, _, by omega, rfl, rfl, HR1, HI9, Lib.hid ⟨HMS.out, hlt⟩, M9, IM9⟩
   case round =>
    clear HR1 HI9 HMS M9 IM9 hle hrow
    obtain ⟨k, s, vC, vP, vA, vE, cvs, hk2, rfl, hqE, HR, HI, HMS, M, IM⟩ := hrel
    have hqE := hqE.symm
    subst hqE
    by_cases hkl : k < m.length
    ·have hi := HMS.out.2
     obtain ⟨va, vcp, hvc⟩ := ownv M.out.oC
     have hlen := M.out.len
     rw [hlen] at hvc
     subst hvc
     obtain ⟨vea, vec, hve⟩ := ownv M.out.oE
     subst hve
     have hle := HI.out.le
     have z1 : (i : Int) < (s.confs.length : Int) := by omega
     have z2 : (k : Int) < (m.length : Int) := by omega
     have z3 : s.confs.length ≤ 500 := by omega
     obtain ⟨xa, xcp, exv, hcs⟩ := M.out.confs
     cases exv
     obtain ⟨b1, o1, xp, xr, xm, xb, rfl, x0, x1, x2, x3, hcf⟩ := hcs i hi
     obtain ⟨mva, mvc, emv, hmv⟩ := IM.out.now
     cases emv
     obtain ⟨b2, o2, rfl, xk⟩ := hmv k hkl
     have ham : m.getD k 0 ∈ movL u (s.confs.getD i cf0) model room := by
      have e : movL u (s.confs.getD i cf0) model room = m := HMS.out.1
      rw [e]; simp [List.getD, hkl]
     obtain ⟨n, hn, hnag, hnen⟩ := movK_mem.1 ham
     have hn28 := agN_le HRU.out model
     have HAC := Lib.hid (fun (w' : World) (hb : Below wr.heap.size wr w') => actm_ok _ _ u (s.confs.getD i cf0) model room n w' (HU.out.below (M.out.low.trans (hb.mono M.out.low.size))) (hcf.below hb) HRU.out HUL.out ((HI.out.ok i hi).more (by omega)) hnag (by omega) hnen)
     have hdr : m.drop k = m.getD k 0 :: m.drop (k + 1) := by
      rw [List.drop_eq_getElem_cons hkl, List.getD_eq_getElem?_getD, List.getElem?_eq_getElem hkl]; rfl
     have HRS : Hid (R = ((stepS u model budget i s (m.getD k 0)).bind (rowS u model budget i (m.drop (k + 1)))).bind (allK u model room budget f (i + 1))) := Lib.hid (by have := HR.out; rw [hdr, rowS] at this; exact this)
     have HST2 := Lib.hid (fun (s' : Sp) (h : stepS u model budget i s (m.getD k 0) = some s') => SpI.step (model := model) (room := room) HRU.out HI.out hi (by rw [HMS.out.1]; exact hkl) (by rw [HMS.out.1]; exact h))
     obtain ⟨dC, hdC⟩ : ∃ d, d = actM u (s.confs.getD i cf0) model n := ⟨_, rfl⟩
     have HDC : Hid (nextC u model s i (m.getD k 0) = dC) := Lib.hid (by rw [hdC, hn]; rfl)
     have HDK : Hid (CfOk u 1000 dC) := Lib.hid (by rw [hdC]; exact (actM_ok HRU.out (HI.out.ok i hi) hnag hnen).more (by omega))
     rw [← hdC] at HAC
     have HNK : Hid (m.getD k 0 = (n : Int)) := Lib.hid hn
     have HCFL : Hid (∀ c ∈ s.confs, CfL c) := Lib.hid (fun c hc => by
      obtain ⟨j, hj, rfl⟩ := List.getElem_of_mem hc
      have := HI.out.ok j hj
      rw [List.getD_eq_getElem?_getD, List.getElem?_eq_getElem hj] at this
      exact CfOk.cfL this HRU.out (by omega))
     rw [hn] at xk
     have d0 := cell_of_block M.out.bs 0 (.slice (some ⟨b1, o1, none⟩) s.confs.length vcp) rfl
     have a0 := cell_of_block M.out.bu 0 (.int .i64 u.mod) rfl
     have a1 := cell_of_block M.out.bu 1 (.slice ia u.init.length ic) rfl
     have a2 := cell_of_block M.out.bu 2 (.slice ga u.regs.length gc) rfl
     have a3 := cell_of_block M.out.bu 3 (.slice ca u.code.length cc) rfl
     clear HR hcs hcf hmv ham hnag hnen hdC hdr hn
     go_wp2_with fail
     refine region_rel_late2 17 15 (fun q => match q with | 17 => u17 | 92 => u92 | 93 => u93 | 94 => u94 | 95 => u95 | 96 => u96 | 97 => u97 | 98 => u98 | 99 => u99 | 100 => u100 | 101 => u101 | 102 => u102 | 103 => u103 | 104 => u104 | 105 => u105 | 106 => u106 | 107 => u107 | _ => undef)
      (fun f => { tmps := #[.agg #[.int .i64 u.mod, .slice ia u.init.length ic, .slice ga u.regs.length gc, .slice ca u.code.length cc], .int .i64 model, .int .i64 room, .int .i64 budget, .pointer (some ⟨w.heap.size, 0, none⟩), undef, undef, undef, .pointer (some ⟨w.heap.size + 1, 0, none⟩), u9, .pointer (some ⟨w1.heap.size, 0, none⟩), .int .i64 0, .pointer (some ⟨S, 0, none⟩), .slice vea s.ed.length vec, .int .i64 (i : Nat), .slice (some ⟨b2, o2, none⟩) m.length mc, .int .i64 (k : Nat), f 17, u18, u19, undef, undef, .tuple #[.agg #[.slice sp C0.pc.length kp, .slice sr C0.regs.length kr, .slice sm C0.mem.length km, .slice sb C0.buf.length kb], .int .i64 0], .agg #[.int .i64 u.mod, .slice ia u.init.length ic, .slice ga u.regs.length gc, .slice ca u.code.length cc], .tuple #[.agg #[.slice sp C0.pc.length kp, .slice sr C0.regs.length kr, .slice sm C0.mem.length km, .slice sb C0.buf.length kb], .int .i64 0], .agg #[.slice sp C0.pc.length kp, .slice sr C0.regs.length kr, .slice sm C0.mem.length km, .slice sb C0.buf.length kb], .int .i64 0, .int .i64 0, .bool false, undef, .int .i64 model, .bool (decide (model < 1)), .bool (decide (model < 1)), .int .i64 model, .bool (decide (3 < model)), .bool (decide (model < 1) || decide (3 < model)), .bool (decide (model < 1) || decide (3 < model)), .int .i64 room, .bool (decide (room < 1)), .bool (decide (model < 1) || decide (3 < model) || decide (room < 1)), .bool (decide (model < 1) || decide (3 < model) || decide (room < 1)), .int .i64 room, .bool (decide (4 < room)), .bool (decide (model < 1) || decide (3 < model) || decide (room < 1) || decide (4 < room)), .bool (decide (model < 1) || decide (3 < model) || decide (room < 1) || decide (4 < room)), .int .i64 budget, .bool (decide (budget < 1)), .bool (decide (model < 1) || decide (3 < model) || decide (room < 1) || decide (4 < room) || decide (budget < 1)), .bool (decide (model < 1) || decide (3 < model) || decide (room < 1) || decide (4 < room) || decide (budget < 1)), .int .i64 budget, .bool (decide (100000 < budget)), .bool (decide (model < 1) || decide (3 < model) || decide (room < 1) || decide (4 < room) || decide (budget < 1) || decide (100000 < budget)), undef, .agg #[.slice none 0 0, .slice none 0 0, .slice none 0 0, .slice none 0 0, .slice none 0 0, .slice none 0 0], .pointer (some ⟨S, 0, none⟩), .slice none 0 0, .agg #[.slice sp C0.pc.length kp, .slice sr C0.regs.length kr, .slice sm C0.mem.length km, .slice sb C0.buf.length kb], .slice (some ⟨S + 1, 0, none⟩) 1 1, .slice (some ⟨g5, 0, none⟩) 1 cap5, .pointer (some ⟨S, 0, none⟩), .pointer (some ⟨S, 4, none⟩), .slice none 0 0, .slice (some ⟨w5.heap.size, 0, none⟩) 1 1, .slice (some ⟨g6, 0, none⟩) 1 cap6, .pointer (some ⟨S, 4, none⟩), .pointer (some ⟨S, 5, none⟩), .slice none 0 0, .slice (some ⟨w6.heap.size, 0, none⟩) 1 1, .slice (some ⟨g7, 0, none⟩) 1 cap7, .pointer (some ⟨S, 5, none⟩), .int .i64 (i : Nat), .pointer (some ⟨S, 0, none⟩), .slice (some ⟨b1O, o1O, none⟩) sO.confs.length vcpO, .int .i64 (sO.confs.length : Nat), .bool true, u75, u76, .agg #[.int .i64 u.mod, .slice ia u.init.length ic, .slice ga u.regs.length gc, .slice ca u.code.length cc], .pointer (some ⟨S, 0, none⟩), .slice (some ⟨b1O, o1O, none⟩) sO.confs.length vcpO, .int .i64 (i : Nat), .pointer (some ⟨b1O, o1O + i * 4, none⟩), .agg #[xpO, xrO, xmO, xbO], .int .i64 model, .int .i64 room, .slice (some ⟨b2, o2, none⟩) m.length mc, .int .i64 (k : Nat), .slice (some ⟨b2, o2, none⟩) m.length mc, .int .i64 (m.length : Nat), .bool true, u90, u91, f 92, f 93, f 94, f 95, f 96, f 97, f 98, f 99, f 100, f 101, f 102, f 103, f 104, f 105, f 106, f 107, u108, u109, u110, u111, u112, u113, u114, u115, u116, u117, u118, u119, u120, u121, u122, u123, u124, u125, u126, u127, u128, u129, u130, u131, u132, u133, u134, u135, u136, u137, u138, u139, u140, u141, u142, u143, u144, u145, u146, u147, u148, u149, u150, u151, u152, undef, undef, undef, undef, undef, undef, undef, undef, undef, undef, undef], defers := [] })
      (fun f => { tmps := #[.agg #[.int .i64 u.mod, .slice ia u.init.length ic, .slice ga u.regs.length gc, .slice ca u.code.length cc], .int .i64 model, .int .i64 room, .int .i64 budget, .pointer (some ⟨w.heap.size, 0, none⟩), undef, undef, undef, .pointer (some ⟨w.heap.size + 1, 0, none⟩), u9, .pointer (some ⟨w1.heap.size, 0, none⟩), .int .i64 0, .pointer (some ⟨S, 0, none⟩), .slice vea s.ed.length vec, .int .i64 (i : Nat), .slice (some ⟨b2, o2, none⟩) m.length mc, .int .i64 (k : Nat), f 17, f 107, u19, undef, undef, .tuple #[.agg #[.slice sp C0.pc.length kp, .slice sr C0.regs.length kr, .slice sm C0.mem.length km, .slice sb C0.buf.length kb], .int .i64 0], .agg #[.int .i64 u.mod, .slice ia u.init.length ic, .slice ga u.regs.length gc, .slice ca u.code.length cc], .tuple #[.agg #[.slice sp C0.pc.length kp, .slice sr C0.regs.length kr, .slice sm C0.mem.length km, .slice sb C0.buf.length kb], .int .i64 0], .agg #[.slice sp C0.pc.length kp, .slice sr C0.regs.length kr, .slice sm C0.mem.length km, .slice sb C0.buf.length kb], .int .i64 0, .int .i64 0, .bool false, undef, .int .i64 model, .bool (decide (model < 1)), .bool (decide (model < 1)), .int .i64 model, .bool (decide (3 < model)), .bool (decide (model < 1) || decide (3 < model)), .bool (decide (model < 1) || decide (3 < model)), .int .i64 room, .bool (decide (room < 1)), .bool (decide (model < 1) || decide (3 < model) || decide (room < 1)), .bool (decide (model < 1) || decide (3 < model) || decide (room < 1)), .int .i64 room, .bool (decide (4 < room)), .bool (decide (model < 1) || decide (3 < model) || decide (room < 1) || decide (4 < room)), .bool (decide (model < 1) || decide (3 < model) || decide (room < 1) || decide (4 < room)), .int .i64 budget, .bool (decide (budget < 1)), .bool (decide (model < 1) || decide (3 < model) || decide (room < 1) || decide (4 < room) || decide (budget < 1)), .bool (decide (model < 1) || decide (3 < model) || decide (room < 1) || decide (4 < room) || decide (budget < 1)), .int .i64 budget, .bool (decide (100000 < budget)), .bool (decide (model < 1) || decide (3 < model) || decide (room < 1) || decide (4 < room) || decide (budget < 1) || decide (100000 < budget)), undef, .agg #[.slice none 0 0, .slice none 0 0, .slice none 0 0, .slice none 0 0, .slice none 0 0, .slice none 0 0], .pointer (some ⟨S, 0, none⟩), .slice none 0 0, .agg #[.slice sp C0.pc.length kp, .slice sr C0.regs.length kr, .slice sm C0.mem.length km, .slice sb C0.buf.length kb], .slice (some ⟨S + 1, 0, none⟩) 1 1, .slice (some ⟨g5, 0, none⟩) 1 cap5, .pointer (some ⟨S, 0, none⟩), .pointer (some ⟨S, 4, none⟩), .slice none 0 0, .slice (some ⟨w5.heap.size, 0, none⟩) 1 1, .slice (some ⟨g6, 0, none⟩) 1 cap6, .pointer (some ⟨S, 4, none⟩), .pointer (some ⟨S, 5, none⟩), .slice none 0 0, .slice (some ⟨w6.heap.size, 0, none⟩) 1 1, .slice (some ⟨g7, 0, none⟩) 1 cap7, .pointer (some ⟨S, 5, none⟩), .int .i64 (i : Nat), .pointer (some ⟨S, 0, none⟩), .slice (some ⟨b1O, o1O, none⟩) sO.confs.length vcpO, .int .i64 (sO.confs.length : Nat), .bool true, u75, u76, .agg #[.int .i64 u.mod, .slice ia u.init.length ic, .slice ga u.regs.length gc, .slice ca u.code.length cc], .pointer (some ⟨S, 0, none⟩), .slice (some ⟨b1O, o1O, none⟩) sO.confs.length vcpO, .int .i64 (i : Nat), .pointer (some ⟨b1O, o1O + i * 4, none⟩), .agg #[xpO, xrO, xmO, xbO], .int .i64 model, .int .i64 room, .slice (some ⟨b2, o2, none⟩) m.length mc, .int .i64 (k : Nat), .slice (some ⟨b2, o2, none⟩) m.length mc, .int .i64 (m.length : Nat), .bool true, u90, u91, f 92, f 93, f 94, f 95, f 96, f 97, f 98, f 99, f 100, f 101, f 102, f 103, f 104, f 105, f 106, f 107, u108, u109, u110, u111, u112, u113, u114, u115, u116, u117, u118, u119, u120, u121, u122, u123, u124, u125, u126, u127, u128, u129, u130, u131, u132, u133, u134, u135, u136, u137, u138, u139, u140, u141, u142, u143, u144, u145, u146, u147, u148, u149, u150, u151, u152, undef, undef, undef, undef, undef, undef, undef, undef, undef, undef, undef], defers := [] }) (fun j => if j = 13 then 92 else if j = 16 then 17 else if 14 ≤ j then j + 92 else j + 93)
      (foundRel wr.heap.size dC [(.agg #[.int .i64 u.mod, .slice ia u.init.length ic, .slice ga u.regs.length gc, .slice ca u.code.length cc]), (.pointer (some ⟨S, 0, none⟩)), (.slice (some ⟨b1, o1, none⟩) s.confs.length vcp), (.int .i64 (i : Nat)), (.pointer (some ⟨b1, o1 + i * 4, none⟩)), (.agg #[xp, xr, xm, xb]), (.int .i64 model), (.int .i64 room), (.slice (some ⟨b2, o2, none⟩) m.length mc), (.int .i64 (k : Nat)), (.pointer (some ⟨b2, o2 + k, none⟩)), (.int .i64 (n : Nat)), undef, undef, undef, (.bool true), undef]) (fun f w w' => foundW dC (f 106) (f 17) w w')
      rfl (by kernel_rfl) (by kernel_rfl) (by decide) (by decide) (by kernel_rfl) (fun i u w w' hb h => foundRel_mono hb h) (by kernel_rfl) (by kernel_rfl) ?_ ?_ ?_ ?_ ?_
     ·intro j hj f v
      rcases j with _ | _ | _ | _ | _ | _ | _ | _ | _ | _ | _ | _ | _ | _ | _ | _ | _ | j
      all_goals first | rfl | omega | (simp at hj; omega)
     ·refine ⟨?_, ?_, ?_, ?_, ?_, ?_, ?_, ?_, ?_, ?_, ?_, ?_, ?_, ?_, ?_, ?_, ?_, trivial⟩
      ·intro f w' hb hd K hK
       have e0 := bkeep hb a0
       have e1 := bkeep hb a1
       have e2 := bkeep hb a2
       have e3 := bkeep hb a3
       dsimp only
       go_simp
       exact hK (.agg #[.int .i64 u.mod, .slice ia u.init.length ic, .slice ga u.regs.length gc, .slice ca u.code.length cc]) w' (Below.refl _ _) rfl
      ·intro f w' hb hd K hK
       dsimp only
       go_simp
       exact hK (.pointer (some ⟨S, 0, none⟩)) w' (Below.refl _ _) rfl
      ·intro f w' hb hd K hK
       have h1 : f 94 = (.pointer (some ⟨S, 0, none⟩)) := hd 1 (by kernel_rfl)
       have e0 := bkeep hb d0
       dsimp only
       go_simp
       have q := hK (.slice (some ⟨b1, o1, none⟩) s.confs.length vcp) w' (Below.refl _ _) rfl
       simp only [h1] at q
       exact q
      ·intro f w' hb hd K hK
       dsimp only
       go_simp
       exact hK (.int .i64 (i : Nat)) w' (Below.refl _ _) rfl
      ·intro f w' hb hd K hK
       have h2 : f 95 = (.slice (some ⟨b1, o1, none⟩) s.confs.length vcp) := hd 2 (by kernel_rfl)
       have h3 : f 96 = (.int .i64 (i : Nat)) := hd 3 (by kernel_rfl)
       dsimp only
       go_simp
       have q := hK (.pointer (some ⟨b1, o1 + i * 4, none⟩)) w' (Below.refl _ _) rfl
       simp only [h2, h3] at q
       exact q
      ·intro f w' hb hd K hK
       have h4 : f 97 = (.pointer (some ⟨b1, o1 + i * 4, none⟩)) := hd 4 (by kernel_rfl)
       have e0 := bkeep hb x0
       have e1 := bkeep hb x1
       have e2 := bkeep hb x2
       have e3 := bkeep hb x3
       dsimp only
       go_simp
       have q := hK (.agg #[xp, xr, xm, xb]) w' (Below.refl _ _) rfl
       simp only [h4] at q
       exact q
      ·intro f w' hb hd K hK
       dsimp only
       go_simp
       exact hK (.int .i64 model) w' (Below.refl _ _) rfl
      ·intro f w' hb hd K hK
       dsimp only
       go_simp
       exact hK (.int .i64 room) w' (Below.refl _ _) rfl
      ·intro f w' hb hd K hK
       dsimp only
       go_simp
       exact hK (.slice (some ⟨b2, o2, none⟩) m.length mc) w' (Below.refl _ _) rfl
      ·intro f w' hb hd K hK
       dsimp only
       go_simp
       exact hK (.int .i64 (k : Nat)) w' (Below.refl _ _) rfl
      ·intro f w' hb hd K hK
       have h8 : f 101 = (.slice (some ⟨b2, o2, none⟩) m.length mc) := hd 8 (by kernel_rfl)
       have h9 : f 102 = (.int .i64 (k : Nat)) := hd 9 (by kernel_rfl)
       dsimp only
       go_simp
       have q := hK (.pointer (some ⟨b2, o2 + k, none⟩)) w' (Below.refl _ _) rfl
       simp only [h8, h9] at q
       exact q
      ·intro f w' hb hd K hK
       have h10 : f 103 = (.pointer (some ⟨b2, o2 + k, none⟩)) := hd 10 (by kernel_rfl)
       have e0 := bkeep hb xk
       dsimp only
       go_simp
       have q := hK (.int .i64 (n : Nat)) w' (Below.refl _ _) rfl
       simp only [h10] at q
       exact q
      ·intro f w' hb hd K hK
       have h0 : f 93 = (.agg #[.int .i64 u.mod, .slice ia u.init.length ic, .slice ga u.regs.length gc, .slice ca u.code.length cc]) := hd 0 (by kernel_rfl)
       have h5 : f 98 = (.agg #[xp, xr, xm, xb]) := hd 5 (by kernel_rfl)
       have h6 : f 99 = (.int .i64 model) := hd 6 (by kernel_rfl)
       have h7 : f 100 = (.int .i64 room) := hd 7 (by kernel_rfl)
       have h11 : f 104 = (.int .i64 (n : Nat)) := hd 11 (by kernel_rfl)
       have hsz : wr.heap.size ≤ w'.heap.size := hb.size
       have HO2 := Lib.hid (HAC.out w' ((Below.refl _ wr).drew.trans hb))
       dsimp only
       go_simp
       go_wp2_with (go_at_call 44; refine HO2.out.mono ?_; rintro e w2 ⟨vp, vr, vm, vb, rv, bv, rfl, hoc, hb2⟩; obtain ⟨s0, t0, rfl⟩ := ownv hoc.pc; obtain ⟨s1, t1, rfl⟩ := ownv hoc.regs.out; obtain ⟨s2, t2, rfl⟩ := ownv hoc.mem; obtain ⟨s3, t3, rfl⟩ := ownv hoc.buf.out)
       have q := hK _ w2 hb2 ⟨_, rfl, s0, t0, s1, t1, s2, t2, s3, t3, rv, bv, rfl, hoc.low hsz⟩
       simp only [h0, h5, h6, h7, h11] at q
       exact q
      ·intro f w' hb hd K hK
       obtain ⟨a, h12, ha⟩ : ∃ a, f 105 = .tuple #[a, .bool true] ∧ cfRel wr.heap.size dC a w' := hd 12 (by kernel_rfl)
       dsimp only
       go_simp
       have q := hK _ w' (Below.refl _ _) ⟨a, rfl, ha⟩
       simp only [h12] at q
       exact q
      ·intro f w' hb hd K hK
       obtain ⟨a, h13, ha⟩ : ∃ a, f 92 = .tuple #[a, .bool true] ∧ cfRel wr.heap.size dC a w' := hd 13 (by kernel_rfl)
       dsimp only
       go_simp
       have q := hK a w' (Below.refl _ _) ha
       simp only [h13] at q
       exact q
      ·intro f w' hb hd K hK
       obtain ⟨a, h13, ha⟩ : ∃ a, f 92 = .tuple #[a, .bool true] ∧ cfRel wr.heap.size dC a w' := hd 13 (by kernel_rfl)
       dsimp only
       go_simp
       have q := hK (.bool true) w' (Below.refl _ _) rfl
       simp only [h13] at q
       exact q
      ·intro f w' hb hd K hK
       have hsz : wr.heap.size ≤ w'.heap.size := hb.size
       dsimp only
       go_simp
       exact hK _ _ (balloc w' _) ⟨w'.heap.size, rfl, hsz, heap_alloc_new w' _⟩
     ·intro Q f w9 hb9 hr H
      obtain ⟨s0, t0, s1, t1, s2, t2, s3, t3, rv, bv, h106, hoc⟩ : cfRel wr.heap.size dC (f 106) w9 := hr 14 (by decide)
      obtain ⟨bD, h17, hbD, hkD⟩ : ∃ b, f 17 = .pointer (some ⟨b, 0, none⟩) ∧ wr.heap.size ≤ b ∧ w9.heap[b]? = some (.cells #[.slice none 0 0, .slice none 0 0, .slice none 0 0, .slice none 0 0] 52 (0, 0)) := hr 16 (by decide)
      clear hr
      have q0 := cell_of_block hkD 0 (.slice none 0 0) rfl
      have q1 := cell_of_block hkD 1 (.slice none 0 0) rfl
      have q2 := cell_of_block hkD 2 (.slice none 0 0) rfl
      have q3 := cell_of_block hkD 3 (.slice none 0 0) rfl
      have g0 := free_of_block hkD 0
      have g1 := free_of_block hkD 1
      have g2 := free_of_block hkD 2
      have g3 := free_of_block hkD 3
      simp only [h106, h17, List.drop_succ_cons, List.drop_zero]
      go_wp2_with fail
      have q := H _ ⟨bD, s0, t0, s1, t1, s2, t2, s3, t3, h17, h106, rfl⟩
      simp only [h106, h17] at q
      exact q
     ·intro Q f w9 hb9 hr H
      obtain ⟨s0, t0, s1, t1, s2, t2, s3, t3, rv, bv, h106, hoc⟩ : cfRel wr.heap.size dC (f 106) w9 := hr 14 (by decide) (by decide)
      obtain ⟨bD, h17, hbD, hkD⟩ : ∃ b, f 17 = .pointer (some ⟨b, 0, none⟩) ∧ wr.heap.size ≤ b ∧ w9.heap[b]? = some (.cells #[.slice none 0 0, .slice none 0 0, .slice none 0 0, .slice none 0 0] 52 (0, 0)) := hr 16 (by decide) (by decide)
      obtain ⟨a, h92, -⟩ : ∃ a, f 92 = .tuple #[a, .bool true] ∧ cfRel wr.heap.size dC a w9 := hr 13 (by decide) (by decide)
      clear hr
      have q0 := cell_of_block hkD 0 (.slice none 0 0) rfl
      have q1 := cell_of_block hkD 1 (.slice none 0 0) rfl
      have q2 := cell_of_block hkD 2 (.slice none 0 0) rfl
      have q3 := cell_of_block hkD 3 (.slice none 0 0) rfl
      have g0 := free_of_block hkD 0
      have g1 := free_of_block hkD 1
      have g2 := free_of_block hkD 2
      have g3 := free_of_block hkD 3
      simp only [h92, h106, h17]
      refine wpAny_ready (rs := [15, 17]) (by kernel_rfl) (by simp) ?_
      refine AllReady.cons rfl (fun K hK => ?_) (AllReady.cons rfl (fun K hK => ?_) AllReady.nil)
      ·go_simp
       refine hK _ _ ?_
       clear hK K
       refine wpAny_ready (rs := [17]) (by kernel_rfl) (by simp) ?_
       refine AllReady.cons rfl (fun K hK => ?_) AllReady.nil
       go_simp
       refine hK _ _ ?_
       clear hK K
       refine wpAny_ready (rs := [18]) (by kernel_rfl) (by simp) ?_
       refine AllReady.cons rfl (fun K hK => ?_) AllReady.nil
       go_simp
       refine hK _ _ ?_
       clear hK K
       refine wpAny_done (by kernel_rfl) ?_ _
       have q := H (.bool true) _ rfl ⟨bD, s0, t0, s1, t1, s2, t2, s3, t3, h17, h106, rfl⟩
       simp (decide := true) only [upd, h92, h106, h17, if_true, if_false] at q
       exact q
      ·go_simp
       refine hK _ _ ?_
       clear hK K
       refine wpAny_ready (rs := [15]) (by kernel_rfl) (by simp) ?_
       refine AllReady.cons rfl (fun K hK => ?_) AllReady.nil
       go_simp
       refine hK _ _ ?_
       clear hK K
       refine wpAny_ready (rs := [18]) (by kernel_rfl) (by simp) ?_
       refine AllReady.cons rfl (fun K hK => ?_) AllReady.nil
       go_simp
       refine hK _ _ ?_
       clear hK K
       refine wpAny_done (by kernel_rfl) ?_ _
       have q := H (.bool true) _ rfl ⟨bD, s0, t0, s1, t1, s2, t2, s3, t3, h17, h106, rfl⟩
       simp (decide := true) only [upd, h92, h106, h17, if_true, if_false] at q
       exact q
     intro f w9 w13 hb9 hr hW
     obtain ⟨s0, t0, s1, t1, s2, t2, s3, t3, rv, bv, h106, hoc⟩ : cfRel wr.heap.size dC (f 106) w9 := hr 14 (by decide)
     obtain ⟨bD, h17, hbD, hkD⟩ : ∃ b, f 17 = .pointer (some ⟨b, 0, none⟩) ∧ wr.heap.size ≤ b ∧ w9.heap[b]? = some (.cells #[.slice none 0 0, .slice none 0 0, .slice none 0 0, .slice none 0 0] 52 (0, 0)) := hr 16 (by decide)
     have h107 : f 107 = .bool true := hr 15 (by decide)
     obtain ⟨bD', s0', t0', s1', t1', s2', t2', s3', t3', e17, e106, rfl⟩ := hW
     rw [e17] at h17
     cases h17
     rw [e106] at h106
     cases h106
     clear hr
     simp only [e106, e17, h107]
     generalize f 92 = y92
     generalize f 93 = y93
     generalize f 94 = y94
     generalize f 95 = y95
     generalize f 96 = y96
     generalize f 97 = y97
     generalize f 98 = y98
     generalize f 99 = y99
     generalize f 100 = y100
     generalize f 101 = y101
     generalize f 102 = y102
     generalize f 103 = y103
     generalize f 104 = y104
     generalize f 105 = y105
     have hw13 : Below wr.heap.size wr ((((w9.setCell ⟨bD, 0, none⟩ (.slice s0 dC.pc.length t0)).setCell ⟨bD, 1, none⟩ (.slice s1 dC.regs.length t1)).setCell ⟨bD, 2, none⟩ (.slice s2 dC.mem.length t2)).setCell ⟨bD, 3, none⟩ (.slice s3 dC.buf.length t3)) := (((hb9.setCell (p := ⟨bD, 0, none⟩) hbD _).setCell (p := ⟨bD, 1, none⟩) hbD _).setCell (p := ⟨bD, 2, none⟩) hbD _).setCell (p := ⟨bD, 3, none⟩) hbD _
     have k1 := heap_setCell_block (i := 0) (v := .slice s0 dC.pc.length t0) hkD
     have k2 := heap_setCell_block (i := 1) (v := .slice s1 dC.regs.length t1) k1
     have k3 := heap_setCell_block (i := 2) (v := .slice s2 dC.mem.length t2) k2
     have OC13 := Lib.hid ((((hoc.setT (i := 0) hkD (.slice s0 dC.pc.length t0)).setT (i := 1) k1 (.slice s1 dC.regs.length t1)).setT (i := 2) k2 (.slice s2 dC.mem.length t2)).setT (i := 3) k3 (.slice s3 dC.buf.length t3))
     have KD13 : Hid (((((w9.setCell ⟨bD, 0, none⟩ (.slice s0 dC.pc.length t0)).setCell ⟨bD, 1, none⟩ (.slice s1 dC.regs.length t1)).setCell ⟨bD, 2, none⟩ (.slice s2 dC.mem.length t2)).setCell ⟨bD, 3, none⟩ (.slice s3 dC.buf.length t3)).heap[bD]? = some (.cells #[.slice s0 dC.pc.length t0, .slice s1 dC.regs.length t1, .slice s2 dC.mem.length t2, .slice s3 dC.buf.length t3] 52 (0, 0))) := Lib.hid (heap_setCell_block (i := 3) (v := .slice s3 dC.buf.length t3) k3)
     have M13 := Lib.hid (M.out.more hw13)
     have IM13 := Lib.hid (IM.out.step (bfrm hw13 _) (fun _ h => .inl h))
     have HX13 := Lib.hid (OC13.out.stable (fun q hq => M.out.spF_lt q hq))
     have HV13 := Lib.hid OC13.out.cf
     clear hw13 k1 k2 k3 OC13 hoc hkD hbD hb9 M IM a0 a1 a2 a3 d0 x0 x1 x2 x3 xk HAC
     generalize (((w9.setCell ⟨bD, 0, none⟩ (.slice s0 dC.pc.length t0)).setCell ⟨bD, 1, none⟩ (.slice s1 dC.regs.length t1)).setCell ⟨bD, 2, none⟩ (.slice s2 dC.mem.length t2)).setCell ⟨bD, 3, none⟩ (.slice s3 dC.buf.length t3) = w13 at *
     have HFD := Lib.hid (find_cf_ok _ _ (.slice none 0 0) (.slice none 0 0) (.slice none 0 0) vP vA s.confs dC w13 M13.out.confs HV13.out (by omega) HCFL.out)
     have HSU : Hid (stepS u model budget i s (m.getD k 0) = if findC s.confs dC < 0 then (if budget ≤ (s.confs.length : Int) then none else some ⟨s.confs ++ [dC], s.par ++ [(i : Int)], s.ag ++ [(n : Int)], s.ed ++ [((i : Int), (n : Int), (s.confs.length : Int))]⟩) else some { s with ed := s.ed ++ [((i : Int), (n : Int), findC s.confs dC)] }) := Lib.hid (by
      have h1 := HDC.out
      rw [HNK.out] at h1 ⊢
      unfold stepS
      rw [h1])
     have HFI := findC_in s.confs dC
     clear HCFL HDC HDK HV13
     have c0 := cell_of_block M13.out.bs 0 (.slice (some ⟨b1, o1, none⟩) s.confs.length vcp) rfl
     have c1 := cell_of_block M13.out.bs 1 (.slice none 0 0) rfl
     have c2 := cell_of_block M13.out.bs 2 (.slice none 0 0) rfl
     have c3 := cell_of_block M13.out.bs 3 (.slice none 0 0) rfl
     have c4 := cell_of_block M13.out.bs 4 vP rfl
     have c5 := cell_of_block M13.out.bs 5 vA rfl
     have e0 := cell_of_block KD13.out 0 (.slice s0 dC.pc.length t0) rfl
     have e1 := cell_of_block KD13.out 1 (.slice s1 dC.regs.length t1) rfl
     have e2 := cell_of_block KD13.out 2 (.slice s2 dC.mem.length t2) rfl
     have e3 := cell_of_block KD13.out 3 (.slice s3 dC.buf.length t3) rfl
     generalize findC s.confs dC = TO at *
     by_cases hf : TO < 0
     ·rw [if_pos hf] at HSU
      by_cases hbud : budget ≤ (s.confs.length : Int)
      ·rw [if_pos hbud] at HSU
       have HRN : Hid (R = none) := Lib.hid (by have := HRS.out; rw [HSU.out] at this; exact this)
       clear HSU HST2 HRS
       go_wp2_with (first
        | (go_at_call 45; refine HFD.out.mono ?_; rintro e1 w14 ⟨rfl, hb14⟩; have M14 := Lib.hid (M13.out.more hb14); clear hb14 M13 IM13 HX13 KD13 c0 c1 c2 c3 c4 c5 e0 e1 e2 e3; have d0 := cell_of_block M14.out.bs 0 (.slice (some ⟨b1, o1, none⟩) s.confs.length vcp) rfl; have r0 := cell_of_block M14.out.br 0 (.slice none 0 0) rfl; have q0 := free_of_block M14.out.br 0; have r1 := cell_of_block M14.out.br 1 (.slice none 0 0) rfl; have q1 := free_of_block M14.out.br 1; have r2 := cell_of_block M14.out.br 2 (.slice none 0 0) rfl; have q2 := free_of_block M14.out.br 2; have r3 := cell_of_block M14.out.br 3 (.slice none 0 0) rfl; have q3 := free_of_block M14.out.br 3; have r4 := cell_of_block M14.out.br 4 (.slice none 0 0) rfl; have q4 := free_of_block M14.out.br 4; have r5 := cell_of_block M14.out.br 5 (.slice none 0 0) rfl; have q5 := free_of_block M14.out.br 5))
       have KB := (heap_setCell_block (i := 5) (v := .slice none 0 0) (heap_setCell_block (i := 4) (v := .slice none 0 0) (heap_setCell_block (i := 3) (v := .slice none 0 0) (heap_setCell_block (i := 2) (v := .slice none 0 0) (heap_setCell_block (i := 1) (v := .slice none 0 0) (heap_setCell_block (i := 0) (v := .slice none 0 0) M14.out.br))))))
       have y0 := cell_of_block KB 0 (.slice none 0 0) rfl
       have y1 := cell_of_block KB 1 (.slice none 0 0) rfl
       have y2 := cell_of_block KB 2 (.slice none 0 0) rfl
       have y3 := cell_of_block KB 3 (.slice none 0 0) rfl
       have y4 := cell_of_block KB 4 (.slice none 0 0) rfl
       have y5 := cell_of_block KB 5 (.slice none 0 0) rfl
       refine bodyPost_ret (v := .tuple #[.agg #[.slice none 0 0, .slice none 0 0, .slice none 0 0, .slice none 0 0, .slice none 0 0, .slice none 0 0], .int .i64 18]) (by simp [results, Try.results27, go_sem, y0, y1, y2, y3, y4, y5]) rfl ?_
       rw [HRN.out]
       exact ⟨rfl, ((((((M14.out.low.setCell (p := ⟨w.heap.size + 1, 0, none⟩) (by show w.heap.size ≤ w.heap.size + 1; omega) (.slice none 0 0)).setCell (p := ⟨w.heap.size + 1, 1, none⟩) (by show w.heap.size ≤ w.heap.size + 1; omega) (.slice none 0 0)).setCell (p := ⟨w.heap.size + 1, 2, none⟩) (by show w.heap.size ≤ w.heap.size + 1; omega) (.slice none 0 0)).setCell (p := ⟨w.heap.size + 1, 3, none⟩) (by show w.heap.size ≤ w.heap.size + 1; omega) (.slice none 0 0)).setCell (p := ⟨w.heap.size + 1, 4, none⟩) (by show w.heap.size ≤ w.heap.size + 1; omega) (.slice none 0 0)).setCell (p := ⟨w.heap.size + 1, 5, none⟩) (by show w.heap.size ≤ w.heap.size + 1; omega) (.slice none 0 0))⟩
      ·rw [if_neg hbud] at HSU
       obtain ⟨HIN, xx, -⟩ := HST2.out _ HSU.out
       have HIN := Lib.hid HIN
       rw [HSU.out] at HRS
       have HRN := HRS
       have HMSN : Hid (movS u model room ⟨s.confs ++ [dC], s.par ++ [(i : Int)], s.ag ++ [(n : Int)], s.ed ++ [((i : Int), (n : Int), (s.confs.length : Int))]⟩ i = m ∧ i < (s.confs ++ [dC]).length) := Lib.hid ⟨(movS_app (s := s) rfl HMS.out.2).trans HMS.out.1, by have := HMS.out.2; rw [List.length_append]; omega⟩
       clear HSU HST2 HRS
       have HSZ : Hid (s.ed.length ≤ 1000000) := Lib.hid (by
        have h1 := HI.out.edm
        have h2 := congrArg List.length h1
        rw [List.length_map, List.length_append, List.length_map, List.length_take] at h2
        have h3 := rowsB_len (model := model) (room := room) HRU.out HI.out.row
        omega)
       have HPL : Hid (s.par.length ≤ 500 ∧ s.ag.length ≤ 500) := Lib.hid (by have h1 := HI.out.lenP; have h2 := HI.out.lenA; omega)
       obtain ⟨pPa, pPc, hvp⟩ := ownv M13.out.oP
       subst hvp
       obtain ⟨pAa, pAc, hva⟩ := ownv M13.out.oA
       subst hva
       go_wp2_with (first
        | (at_builtin; refine wpList_append_lies ((w15.setCell ⟨S, 0, none⟩ (.slice (some ⟨g15, 0, none⟩) (s.confs.length + 1) cap15)).alloc (.cells #[.int .i64 (i : Nat)] 3)) rfl (.tmp 129) (.tmp 131) 22 rfl (S + 1) 3 i0 (.int .i64 0) 1 8 Try.underlying22 hi0 hz0 hz1 hz2 rfl (by decide) (.slice pPa s.par.length pPc) s.par.length (s.par.map (Value.int .i64)) rfl (World.ownsRow.alloc M15.out.oP _) ⟨w15.heap.size, 0, none⟩ 1 1 [.int .i64 (i : Nat)] rfl rfl (World.news_of_block (by rw [← HS15.out]; exact heap_alloc_new _ _)) (by simp [Value.oneCell']) (by omega) (by have := HPL.out; unfold maxLen; omega) (by have := HPL.out; omega) (by have := M15.out.size; simp only [alloc_size]; omega) ((w15.setCell ⟨S, 0, none⟩ (.slice (some ⟨g15, 0, none⟩) (s.confs.length + 1) cap15)).heap.size + 1) (by simp) ?_; intro g16 cap16 w16 hown16 hgr16 hor16 hlt16; have B16 := Lib.hid (M15.out.more (balloc (w15.setCell ⟨S, 0, none⟩ (.slice (some ⟨g15, 0, none⟩) (s.confs.length + 1) cap15)) (.cells #[.int .i64 (i : Nat)] 3))); have M16 := Lib.hid (B16.out.growP (vP' := .slice (some ⟨g16, 0, none⟩) (s.par.length + 1) cap16) (x := (i : Int)) hgr16 hown16 (own_hor (n := s.par.length + 1) (cap := cap16) hor16 (by simp only [alloc_size]; omega))); have K16 := Lib.hid (B16.out.base (v := (.slice pPa s.par.length pPc)) (by simp) hgr16); have IM16 := Lib.hid ((IM15.out.step (bfrm (balloc (w15.setCell ⟨S, 0, none⟩ (.slice (some ⟨g15, 0, none⟩) (s.confs.length + 1) cap15)) (.cells #[.int .i64 (i : Nat)] 3)) _) (fun _ h => .inl h)).step (F' := spF (w.heap.size + 2) S (.slice (some ⟨g15, 0, none⟩) (s.confs.length + 1) cap15) (.slice (some ⟨g16, 0, none⟩) (s.par.length + 1) cap16) (.slice pAa s.ag.length pAc) (.slice vea s.ed.length vec)) (frm_set (frm_grow hgr16 (fun q e => .inr (.inr (.inl e)))) (.inl (.inl rfl)) 4 (.slice (some ⟨g16, 0, none⟩) (s.par.length + 1) cap16)) (fun q hq => by rcases hq with e | e | e | e | e; exact .inl (.inl e); exact .inl (.inr (.inl e)); (rcases own_hor (N := ((w15.setCell ⟨S, 0, none⟩ (.slice (some ⟨g15, 0, none⟩) (s.confs.length + 1) cap15)).alloc (.cells #[.int .i64 (i : Nat)] 3)).heap.size) (n := s.par.length + 1) (cap := cap16) hor16 (by simp only [alloc_size]; omega) q e with e | e; exact .inl (.inr (.inr (.inl e))); exact .inr e); exact .inl (.inr (.inr (.inr (.inl e)))); exact .inl (.inr (.inr (.inr (.inr e)))))); clear hown16 hgr16 hor16 hlt16 M15 IM15 HS15 B16 d4 g4; have d4 := cell_of_block K16.out.2.2.2 4 (.slice pPa s.par.length pPc) rfl; have g4 := free_of_block K16.out.2.2.2 4; clear K16)
        | (at_builtin; refine wpList_append_lies (w14.alloc (.cells #[.slice s0 dC.pc.length t0, .slice s1 dC.regs.length t1, .slice s2 dC.mem.length t2, .slice s3 dC.buf.length t3] 52)) rfl (.tmp 123) (.tmp 125) 28 rfl (S + 1) 52 i5 (.agg #[.slice none 0 0, .slice none 0 0, .slice none 0 0, .slice none 0 0]) 4 96 Try.underlying28 hi5 hv0 hv1 hv2 rfl (by decide) (.slice (some ⟨b1, o1, none⟩) s.confs.length vcp) s.confs.length (cells4 cvs) rfl (World.ownsRow.alloc (by have := M14.out.oC; rwa [M14.out.len] at this) _) ⟨w14.heap.size, 0, none⟩ 1 1 [.slice s0 dC.pc.length t0, .slice s1 dC.regs.length t1, .slice s2 dC.mem.length t2, .slice s3 dC.buf.length t3] rfl rfl (World.news_of_block (heap_alloc_new _ _)) (by simp [Value.oneCell']) (by omega) (by unfold maxLen; omega) (by omega) (by have := M14.out.size; simp only [alloc_size]; omega) (w14.heap.size + 1) (by simp) ?_; intro g15 cap15 w15 hown15 hgr15 hor15 hlt15; have B15 := Lib.hid (M14.out.more (balloc w14 (.cells #[.slice s0 dC.pc.length t0, .slice s1 dC.regs.length t1, .slice s2 dC.mem.length t2, .slice s3 dC.buf.length t3] 52))); have M15 := Lib.hid (B15.out.growC (vC' := (.slice (some ⟨g15, 0, none⟩) (s.confs.length + 1) cap15)) (x := (.slice s0 dC.pc.length t0, .slice s1 dC.regs.length t1, .slice s2 dC.mem.length t2, .slice s3 dC.buf.length t3)) (d := dC) hgr15 (by rw [M14.out.len]; exact hown15) (own_hor (n := s.confs.length + 1) (cap := cap15) hor15 (by simp only [alloc_size]; omega)) (HX14.out.step (bfrm (balloc w14 (.cells #[.slice s0 dC.pc.length t0, .slice s1 dC.regs.length t1, .slice s2 dC.mem.length t2, .slice s3 dC.buf.length t3] 52)) _) (fun _ h => .inl h))); have HS15 : Hid ((w15.setCell ⟨S, 0, none⟩ (.slice (some ⟨g15, 0, none⟩) (s.confs.length + 1) cap15)).heap.size = w15.heap.size) := Lib.hid (by simp); have K15 := Lib.hid (B15.out.base (v := (.slice (some ⟨b1, o1, none⟩) s.confs.length vcp)) (by simp) hgr15); have IM15 := Lib.hid ((IM14.out.step (bfrm (balloc w14 (.cells #[.slice s0 dC.pc.length t0, .slice s1 dC.regs.length t1, .slice s2 dC.mem.length t2, .slice s3 dC.buf.length t3] 52)) _) (fun _ h => .inl h)).step (F' := spF (w.heap.size + 2) S (.slice (some ⟨g15, 0, none⟩) (s.confs.length + 1) cap15) (.slice pPa s.par.length pPc) (.slice pAa s.ag.length pAc) (.slice vea s.ed.length vec)) (frm_set (frm_grow hgr15 (fun q e => .inr (.inl e))) (.inl (.inl rfl)) 0 (.slice (some ⟨g15, 0, none⟩) (s.confs.length + 1) cap15)) (fun q hq => by rcases hq with e | e | e | e | e; exact .inl (.inl e); (rcases own_hor (N := (w14.alloc (.cells #[.slice s0 dC.pc.length t0, .slice s1 dC.regs.length t1, .slice s2 dC.mem.length t2, .slice s3 dC.buf.length t3] 52)).heap.size) (n := s.confs.length + 1) (cap := cap15) hor15 (by simp only [alloc_size]; omega) q e with e | e; exact .inl (.inr (.inl e)); exact .inr e); exact .inl (.inr (.inr (.inl e))); exact .inl (.inr (.inr (.inr (.inl e)))); exact .inl (.inr (.inr (.inr (.inr e)))))); clear hown15 hgr15 hor15 hlt15 M14 IM14 HX14 KD14 B15 d0 g0 e0 e1 e2 e3; have d0 := cell_of_block K15.out.2.2.2 0 (.slice (some ⟨b1, o1, none⟩) s.confs.length vcp) rfl; have g0 := free_of_block K15.out.2.2.2 0; clear K15; have d4 := cell_of_block M15.out.bs 4 (.slice pPa s.par.length pPc) rfl; have g4 := free_of_block M15.out.bs 4)
        | (go_at_call 45; refine HFD.out.mono ?_; rintro e1 w14 ⟨rfl, hb14⟩; have M14 := Lib.hid (M13.out.more hb14); have IM14 := Lib.hid (IM13.out.step (bfrm hb14 _) (fun _ h => .inl h)); have HX14 := Lib.hid (HX13.out.step (bfrm hb14 _) (fun _ h => .inl h)); have KD14 := Lib.hid (bheap hb14 KD13.out); clear hb14 M13 IM13 HX13 KD13 c0 c1 c2 c3 c4 c5 e0 e1 e2 e3; have d0 := cell_of_block M14.out.bs 0 (.slice (some ⟨b1, o1, none⟩) s.confs.length vcp) rfl; have g0 := free_of_block M14.out.bs 0; have e0 := cell_of_block KD14.out 0 (.slice s0 dC.pc.length t0) rfl; have e1 := cell_of_block KD14.out 1 (.slice s1 dC.regs.length t1) rfl; have e2 := cell_of_block KD14.out 2 (.slice s2 dC.mem.length t2) rfl; have e3 := cell_of_block KD14.out 3 (.slice s3 dC.buf.length t3) rfl))
       clear d0 g0 d4 g4
       generalize (w16.setCell ⟨S, 4, none⟩ (.slice (some ⟨g16, 0, none⟩) (s.par.length + 1) cap16)) = w17 at *
       have d5 := cell_of_block M16.out.bs 5 (.slice pAa s.ag.length pAc) rfl
       have xk := ints_cell IM16.out.now hkl
       rw [HNK.out] at xk
       have HA17 := Lib.hid M16.out.size
       refine region_rel_tail 7 (fun q => match q with | 134 => u134 | 135 => u135 | 136 => u136 | 137 => u137 | 138 => u138 | 139 => u139 | 140 => u140 | _ => undef)
        (fun f => { tmps := #[.agg #[.int .i64 u.mod, .slice ia u.init.length ic, .slice ga u.regs.length gc, .slice ca u.code.length cc], .int .i64 model, .int .i64 room, .int .i64 budget, .pointer (some ⟨w.heap.size, 0, none⟩), undef, undef, undef, .pointer (some ⟨w.heap.size + 1, 0, none⟩), u9, .pointer (some ⟨w1.heap.size, 0, none⟩), .int .i64 0, .pointer (some ⟨S, 0, none⟩), .slice vea s.ed.length vec, .int .i64 (i : Nat), .slice (some ⟨b2, o2, none⟩) m.length mc, .int .i64 (k : Nat), .pointer (some ⟨bD, 0, none⟩), .bool true, .int .i64 (s.confs.length : Nat), undef, undef, .tuple #[.agg #[.slice sp C0.pc.length kp, .slice sr C0.regs.length kr, .slice sm C0.mem.length km, .slice sb C0.buf.length kb], .int .i64 0], .agg #[.int .i64 u.mod, .slice ia u.init.length ic, .slice ga u.regs.length gc, .slice ca u.code.length cc], .tuple #[.agg #[.slice sp C0.pc.length kp, .slice sr C0.regs.length kr, .slice sm C0.mem.length km, .slice sb C0.buf.length kb], .int .i64 0], .agg #[.slice sp C0.pc.length kp, .slice sr C0.regs.length kr, .slice sm C0.mem.length km, .slice sb C0.buf.length kb], .int .i64 0, .int .i64 0, .bool false, undef, .int .i64 model, .bool (decide (model < 1)), .bool (decide (model < 1)), .int .i64 model, .bool (decide (3 < model)), .bool (decide (model < 1) || decide (3 < model)), .bool (decide (model < 1) || decide (3 < model)), .int .i64 room, .bool (decide (room < 1)), .bool (decide (model < 1) || decide (3 < model) || decide (room < 1)), .bool (decide (model < 1) || decide (3 < model) || decide (room < 1)), .int .i64 room, .bool (decide (4 < room)), .bool (decide (model < 1) || decide (3 < model) || decide (room < 1) || decide (4 < room)), .bool (decide (model < 1) || decide (3 < model) || decide (room < 1) || decide (4 < room)), .int .i64 budget, .bool (decide (budget < 1)), .bool (decide (model < 1) || decide (3 < model) || decide (room < 1) || decide (4 < room) || decide (budget < 1)), .bool (decide (model < 1) || decide (3 < model) || decide (room < 1) || decide (4 < room) || decide (budget < 1)), .int .i64 budget, .bool (decide (100000 < budget)), .bool (decide (model < 1) || decide (3 < model) || decide (room < 1) || decide (4 < room) || decide (budget < 1) || decide (100000 < budget)), undef, .agg #[.slice none 0 0, .slice none 0 0, .slice none 0 0, .slice none 0 0, .slice none 0 0, .slice none 0 0], .pointer (some ⟨S, 0, none⟩), .slice none 0 0, .agg #[.slice sp C0.pc.length kp, .slice sr C0.regs.length kr, .slice sm C0.mem.length km, .slice sb C0.buf.length kb], .slice (some ⟨S + 1, 0, none⟩) 1 1, .slice (some ⟨g5, 0, none⟩) 1 cap5, .pointer (some ⟨S, 0, none⟩), .pointer (some ⟨S, 4, none⟩), .slice none 0 0, .slice (some ⟨w5.heap.size, 0, none⟩) 1 1, .slice (some ⟨g6, 0, none⟩) 1 cap6, .pointer (some ⟨S, 4, none⟩), .pointer (some ⟨S, 5, none⟩), .slice none 0 0, .slice (some ⟨w6.heap.size, 0, none⟩) 1 1, .slice (some ⟨g7, 0, none⟩) 1 cap7, .pointer (some ⟨S, 5, none⟩), .int .i64 (i : Nat), .pointer (some ⟨S, 0, none⟩), .slice (some ⟨b1O, o1O, none⟩) sO.confs.length vcpO, .int .i64 (sO.confs.length : Nat), .bool true, u75, u76, .agg #[.int .i64 u.mod, .slice ia u.init.length ic, .slice ga u.regs.length gc, .slice ca u.code.length cc], .pointer (some ⟨S, 0, none⟩), .slice (some ⟨b1O, o1O, none⟩) sO.confs.length vcpO, .int .i64 (i : Nat), .pointer (some ⟨b1O, o1O + i * 4, none⟩), .agg #[xpO, xrO, xmO, xbO], .int .i64 model, .int .i64 room, .slice (some ⟨b2, o2, none⟩) m.length mc, .int .i64 (k : Nat), .slice (some ⟨b2, o2, none⟩) m.length mc, .int .i64 (m.length : Nat), .bool true, u90, u91, y92, y93, y94, y95, y96, y97, y98, y99, y100, y101, y102, y103, y104, y105, .agg #[.slice s0 dC.pc.length t0, .slice s1 dC.regs.length t1, .slice s2 dC.mem.length t2, .slice s3 dC.buf.length t3], .bool true, .agg #[.slice (some ⟨b1, o1, none⟩) s.confs.length vcp, .slice none 0 0, .slice none 0 0, .slice none 0 0, .slice pPa s.par.length pPc, .slice pAa s.ag.length pAc], .agg #[.slice s0 dC.pc.length t0, .slice s1 dC.regs.length t1, .slice s2 dC.mem.length t2, .slice s3 dC.buf.length t3], .int .i64 TO, .int .i64 TO, .bool true, .pointer (some ⟨S, 0, none⟩), .slice (some ⟨b1, o1, none⟩) s.confs.length vcp, .int .i64 (s.confs.length : Nat), .int .i64 budget, .bool (decide (budget ≤ ↑s.confs.length)), u118, .pointer (some ⟨S, 0, none⟩), .slice (some ⟨b1, o1, none⟩) s.confs.length vcp, .int .i64 (s.confs.length : Nat), .pointer (some ⟨S, 0, none⟩), .slice (some ⟨b1, o1, none⟩) s.confs.length vcp, .agg #[.slice s0 dC.pc.length t0, .slice s1 dC.regs.length t1, .slice s2 dC.mem.length t2, .slice s3 dC.buf.length t3], .slice (some ⟨w14.heap.size, 0, none⟩) 1 1, .slice (some ⟨g15, 0, none⟩) (s.confs.length + 1) cap15, .pointer (some ⟨S, 0, none⟩), .pointer (some ⟨S, 4, none⟩), .slice pPa s.par.length pPc, .int .i64 (i : Nat), .slice (some ⟨w15.heap.size, 0, none⟩) 1 1, .slice (some ⟨g16, 0, none⟩) (s.par.length + 1) cap16, .pointer (some ⟨S, 4, none⟩), f 134, f 135, f 136, f 137, f 138, f 139, f 140, u141, u142, u143, u144, u145, u146, u147, u148, u149, u150, u151, u152, undef, undef, undef, undef, undef, undef, undef, undef, undef, undef, undef], defers := [] }) (fun j => j + 134)
        (byRel w17.heap.size (n : Int) [(.pointer (some ⟨S, 5, none⟩)), (.slice pAa s.ag.length pAc), (.slice (some ⟨b2, o2, none⟩) m.length mc), (.int .i64 (k : Nat)), (.pointer (some ⟨b2, o2 + k, none⟩)), (.int .i64 (n : Nat))])
        rfl (by kernel_rfl) (by kernel_rfl) (by kernel_rfl) (by decide) (by kernel_rfl) (fun i u w w' hb h => byRel_mono hb h) (by kernel_rfl) (by kernel_rfl) ?_ ?_ ?_
       ·intro j hj f v
        rcases j with _ | _ | _ | _ | _ | _ | _ | j
        all_goals first | rfl | omega | (simp at hj; omega)
       ·refine ⟨?_, ?_, ?_, ?_, ?_, ?_, ?_, trivial⟩
        ·intro f w' hb hd K hK
         dsimp only
         go_simp
         exact hK (.pointer (some ⟨S, 5, none⟩)) w' (Below.refl _ _) rfl
        ·intro f w' hb hd K hK
         have h0 : f 134 = (.pointer (some ⟨S, 5, none⟩)) := hd 0 (by kernel_rfl)
         have e0 := bkeep hb d5
         dsimp only
         go_simp
         have q := hK (.slice pAa s.ag.length pAc) w' (Below.refl _ _) rfl
         simp only [h0] at q
         exact q
        ·intro f w' hb hd K hK
         dsimp only
         go_simp
         exact hK (.slice (some ⟨b2, o2, none⟩) m.length mc) w' (Below.refl _ _) rfl
        ·intro f w' hb hd K hK
         dsimp only
         go_simp
         exact hK (.int .i64 (k : Nat)) w' (Below.refl _ _) rfl
        ·intro f w' hb hd K hK
         have h2 : f 136 = (.slice (some ⟨b2, o2, none⟩) m.length mc) := hd 2 (by kernel_rfl)
         have h3 : f 137 = (.int .i64 (k : Nat)) := hd 3 (by kernel_rfl)
         dsimp only
         go_simp
         have q := hK (.pointer (some ⟨b2, o2 + k, none⟩)) w' (Below.refl _ _) rfl
         simp only [h2, h3] at q
         exact q
        ·intro f w' hb hd K hK
         have h4 : f 138 = (.pointer (some ⟨b2, o2 + k, none⟩)) := hd 4 (by kernel_rfl)
         have e0 := bkeep hb xk
         dsimp only
         go_simp
         have q := hK (.int .i64 (n : Nat)) w' (Below.refl _ _) rfl
         simp only [h4] at q
         exact q
        ·intro f w' hb hd K hK
         have h5 : f 139 = (.int .i64 (n : Nat)) := hd 5 (by kernel_rfl)
         have hsz : w17.heap.size ≤ w'.heap.size := hb.size
         dsimp only
         go_simp
         have q := hK _ _ (balloc w' _) (byRel6 (x := (n : Int)) (vs := [(.pointer (some ⟨S, 5, none⟩)), (.slice pAa s.ag.length pAc), (.slice (some ⟨b2, o2, none⟩) m.length mc), (.int .i64 (k : Nat)), (.pointer (some ⟨b2, o2 + k, none⟩)), (.int .i64 (n : Nat))]) hsz)
         simp only [h5] at q
         exact q
       intro f w18 hb18 hr
       have h135 : f 135 = (.slice pAa s.ag.length pAc) := hr 1 (by decide)
       obtain ⟨b6, h140, -, hbk⟩ : ∃ b, f 140 = .slice (some ⟨b, 0, none⟩) 1 1 ∧ w17.heap.size ≤ b ∧ w18.heap[b]? = some (.cells #[.int .i64 (n : Nat)] 3 (0, 0)) := hr 6 (by decide)
       clear hr
       simp only [h135, h140, List.drop_succ_cons, List.drop_zero]
       generalize f 134 = z134
       generalize f 136 = z136
       generalize f 137 = z137
       generalize f 138 = z138
       generalize f 139 = z139
       have M18 := Lib.hid (M16.out.more hb18)
       have IM18 := Lib.hid (IM16.out.step (bfrm hb18 _) (fun _ h => .inl h))
       have HBK := Lib.hid hbk
       clear hbk hb18 M16 IM16 d5 xk HA17
       have d5 := cell_of_block M18.out.bs 5 (.slice pAa s.ag.length pAc) rfl
       have g5 := free_of_block M18.out.bs 5
       go_wp2_with (first
        | (at_builtin; refine wpList_append_lies ((w19.setCell ⟨S, 5, none⟩ (.slice (some ⟨g19, 0, none⟩) (s.ag.length + 1) cap19)).alloc (.cells #[.int .i64 (i : Nat), .int .i64 (n : Nat), .int .i64 (s.confs.length : Nat)] 65)) rfl (.tmp 143) (.tmp 151) 62 rfl (S + 1) 65 i6 (.agg #[.int .i64 0, .int .i64 0, .int .i64 0]) 3 24 Try.underlying62 hi6 hx0 hx1 hx2 rfl (by decide) (.slice vea s.ed.length vec) s.ed.length (edCells s.ed) rfl (World.ownsRow.alloc M19.out.oE _) ⟨w19.heap.size, 0, none⟩ 1 1 [.int .i64 (i : Nat), .int .i64 (n : Nat), .int .i64 (s.confs.length : Nat)] rfl rfl (World.news_of_block (by rw [← HS19.out]; exact heap_alloc_new _ _)) (by simp [Value.oneCell']) (by omega) (by have := HSZ.out; unfold maxLen; omega) (by have := HSZ.out; omega) (by have := M19.out.size; simp only [alloc_size]; omega) ((w19.setCell ⟨S, 5, none⟩ (.slice (some ⟨g19, 0, none⟩) (s.ag.length + 1) cap19)).heap.size + 1) (by simp) ?_; intro g20 cap20 w20 hown20 hgr20 hor20 hlt20; have M20 := Lib.hid ((M19.out.more (balloc (w19.setCell ⟨S, 5, none⟩ (.slice (some ⟨g19, 0, none⟩) (s.ag.length + 1) cap19)) (.cells #[.int .i64 (i : Nat), .int .i64 (n : Nat), .int .i64 (s.confs.length : Nat)] 65))).growE (vE' := .slice (some ⟨g20, 0, none⟩) (s.ed.length + 1) cap20) (x := ((i : Int), (n : Int), (s.confs.length : Int))) hgr20 hown20 (own_hor (n := s.ed.length + 1) (cap := cap20) hor20 (by simp only [alloc_size]; omega))); have IM20 := Lib.hid ((IM19.out.step (bfrm (balloc (w19.setCell ⟨S, 5, none⟩ (.slice (some ⟨g19, 0, none⟩) (s.ag.length + 1) cap19)) (.cells #[.int .i64 (i : Nat), .int .i64 (n : Nat), .int .i64 (s.confs.length : Nat)] 65)) _) (fun _ h => .inl h)).step (F' := spF (w.heap.size + 2) S (.slice (some ⟨g15, 0, none⟩) (s.confs.length + 1) cap15) (.slice (some ⟨g16, 0, none⟩) (s.par.length + 1) cap16) (.slice (some ⟨g19, 0, none⟩) (s.ag.length + 1) cap19) (.slice (some ⟨g20, 0, none⟩) (s.ed.length + 1) cap20)) (frm_grow hgr20 (fun q e => .inr (.inr (.inr (.inr e))))) (fun q hq => by rcases hq with e | e | e | e | e; exact .inl (.inl e); exact .inl (.inr (.inl e)); exact .inl (.inr (.inr (.inl e))); exact .inl (.inr (.inr (.inr (.inl e)))); (rcases own_hor (N := ((w19.setCell ⟨S, 5, none⟩ (.slice (some ⟨g19, 0, none⟩) (s.ag.length + 1) cap19)).alloc (.cells #[.int .i64 (i : Nat), .int .i64 (n : Nat), .int .i64 (s.confs.length : Nat)] 65)).heap.size) (n := s.ed.length + 1) (cap := cap20) hor20 (by simp only [alloc_size]; omega) q e with e | e; exact .inl (.inr (.inr (.inr (.inr e)))); exact .inr e))); clear hown20 hgr20 hor20 hlt20 M19 IM19)
        | (at_builtin; refine wpList_append_lies w18 rfl (.tmp 135) (.tmp 140) 22 rfl (S + 1) 3 i0 (.int .i64 0) 1 8 Try.underlying22 hi0 hz0 hz1 hz2 rfl (by decide) (.slice pAa s.ag.length pAc) s.ag.length (s.ag.map (Value.int .i64)) rfl M18.out.oA ⟨b6, 0, none⟩ 1 1 [.int .i64 (n : Nat)] rfl rfl (World.news_of_block HBK.out) (by simp [Value.oneCell']) (by omega) (by have := HPL.out; unfold maxLen; omega) (by have := HPL.out; omega) (by have := M18.out.size; omega) w18.heap.size rfl ?_; intro g19 cap19 w19 hown19 hgr19 hor19 hlt19; have M19 := Lib.hid (M18.out.growA (vA' := (.slice (some ⟨g19, 0, none⟩) (s.ag.length + 1) cap19)) (x := (n : Int)) hgr19 hown19 (own_hor (n := s.ag.length + 1) (cap := cap19) hor19 (by omega))); have HS19 : Hid ((w19.setCell ⟨S, 5, none⟩ (.slice (some ⟨g19, 0, none⟩) (s.ag.length + 1) cap19)).heap.size = w19.heap.size) := Lib.hid (by simp); have K19 := Lib.hid (M18.out.base (v := (.slice pAa s.ag.length pAc)) (by simp) hgr19); have IM19 := Lib.hid (IM18.out.step (F' := spF (w.heap.size + 2) S (.slice (some ⟨g15, 0, none⟩) (s.confs.length + 1) cap15) (.slice (some ⟨g16, 0, none⟩) (s.par.length + 1) cap16) (.slice (some ⟨g19, 0, none⟩) (s.ag.length + 1) cap19) (.slice vea s.ed.length vec)) (frm_set (frm_grow hgr19 (fun q e => .inr (.inr (.inr (.inl e))))) (.inl (.inl rfl)) 5 (.slice (some ⟨g19, 0, none⟩) (s.ag.length + 1) cap19)) (fun q hq => by rcases hq with e | e | e | e | e; exact .inl (.inl e); exact .inl (.inr (.inl e)); exact .inl (.inr (.inr (.inl e))); (rcases own_hor (N := w18.heap.size) (n := s.ag.length + 1) (cap := cap19) hor19 (by omega) q e with e | e; exact .inl (.inr (.inr (.inr (.inl e)))); exact .inr e); exact .inl (.inr (.inr (.inr (.inr e)))))); clear hown19 hgr19 hor19 hlt19 M18 IM18 d5 g5; have d5 := cell_of_block K19.out.2.2.2 5 (.slice pAa s.ag.length pAc) rfl; have g5 := free_of_block K19.out.2.2.2 5; clear K19; have xk := ints_cell IM19.out.now hkl; rw [HNK.out] at xk))
       go_roundg (m.length - (k + 1))
       case measure => omega
       case rel => exact ⟨k + 1, _, _, _, _, _, _, by omega, by simp, rfl, HRN, HIN, HMSN, M20, IM20⟩
     ·rw [if_neg hf] at HSU
      obtain ⟨HIN, xx, -⟩ := HST2.out _ HSU.out
      have HIN := Lib.hid HIN
      rw [HSU.out] at HRS
      have HRN := HRS
      clear HSU HST2 HRS
      have HSZ : Hid (s.ed.length ≤ 1000000) := Lib.hid (by
       have h1 := HI.out.edm
       have h2 := congrArg List.length h1
       rw [List.length_map, List.length_append, List.length_map, List.length_take] at h2
       have h3 := rowsB_len (model := model) (room := room) HRU.out HI.out.row
       omega)
      go_wp2_with (first
       | (at_builtin; refine wpList_append_lies (w14.alloc (.cells #[.int .i64 (i : Nat), .int .i64 (n : Nat), .int .i64 TO] 65)) rfl (.tmp 143) (.tmp 151) 62 rfl (S + 1) 65 i6 (.agg #[.int .i64 0, .int .i64 0, .int .i64 0]) 3 24 Try.underlying62 hi6 hx0 hx1 hx2 rfl (by decide) (.slice vea s.ed.length vec) s.ed.length (edCells s.ed) rfl (World.ownsRow.alloc M14.out.oE _) ⟨w14.heap.size, 0, none⟩ 1 1 [.int .i64 (i : Nat), .int .i64 (n : Nat), .int .i64 TO] rfl rfl (World.news_of_block (heap_alloc_new _ _)) (by simp [Value.oneCell']) (by omega) (by have := HSZ.out; unfold maxLen; omega) (by have := HSZ.out; omega) (by have := M14.out.size; simp only [alloc_size]; omega) (w14.heap.size + 1) (by simp) ?_; intro g15 cap15 w15 hown15 hgr15 hor15 hlt15; have M15 := Lib.hid ((M14.out.more (balloc w14 (.cells #[.int .i64 (i : Nat), .int .i64 (n : Nat), .int .i64 TO] 65))).growE (vE' := .slice (some ⟨g15, 0, none⟩) (s.ed.length + 1) cap15) (x := ((i : Int), (n : Int), TO)) hgr15 hown15 (own_hor (n := s.ed.length + 1) (cap := cap15) hor15 (by simp only [alloc_size]; omega))); have IM15 := Lib.hid ((IM14.out.step (bfrm (balloc w14 (.cells #[.int .i64 (i : Nat), .int .i64 (n : Nat), .int .i64 TO] 65)) _) (fun _ h => .inl h)).step (F' := spF (w.heap.size + 2) S (.slice (some ⟨b1, o1, none⟩) s.confs.length vcp) vP vA (.slice (some ⟨g15, 0, none⟩) (s.ed.length + 1) cap15)) (frm_grow hgr15 (fun q e => .inr (.inr (.inr (.inr e))))) (fun q hq => by rcases hq with e | e | e | e | e; exact .inl (.inl e); exact .inl (.inr (.inl e)); exact .inl (.inr (.inr (.inl e))); exact .inl (.inr (.inr (.inr (.inl e)))); (rcases own_hor (N := (w14.alloc (.cells #[.int .i64 (i : Nat), .int .i64 (n : Nat), .int .i64 TO] 65)).heap.size) (n := s.ed.length + 1) (cap := cap15) hor15 (by simp only [alloc_size]; omega) q e with e | e; exact .inl (.inr (.inr (.inr (.inr e)))); exact .inr e))); clear hown15 hgr15 hor15 hlt15 M14 IM14)
       | (go_at_call 45; refine HFD.out.mono ?_; rintro e1 w14 ⟨rfl, hb14⟩; have M14 := Lib.hid (M13.out.more hb14); have IM14 := Lib.hid (IM13.out.step (bfrm hb14 _) (fun _ h => .inl h)); clear hb14 M13 IM13 HX13 KD13 c0 c1 c2 c3 c4 c5 e0 e1 e2 e3; have xk := ints_cell IM14.out.now hkl; rw [HNK.out] at xk))
      go_roundg (m.length - (k + 1))
      case measure => omega
      case rel => exact ⟨k + 1, _, _, _, _, _, _, by omega, by simp, rfl, HRN, HIN, HMS, M15, IM15⟩
    ·obtain rfl : k = m.length := by omega
     have z4 : ¬ ((m.length : Nat) : Int) < (m.length : Int) := by omega
     have HRE : Hid (R = allK u model room budget f (i + 1) s) := Lib.hid (by have := HR.out; rw [List.drop_length, rowS, Option.bind_some] at this; exact this)
     have HIE : Hid (SpI u model room budget (i + 1) 0 s) := Lib.hid (by have := HI.out; rw [← HMS.out.1] at this; exact this.next HMS.out.2)
     clear HR HI IM
     go_wp2_with fail
     go_roundg f
     case measure => omega
     case rel => exact ⟨i + 1, s, _, _, _, _, _, by omega, by simp, rfl, HRE, HIE, M⟩
  ·obtain rfl : i = sO.confs.length := by omega
   obtain ⟨f, rfl⟩ : ∃ f, gk = f + 1 := ⟨gk - 1, by omega⟩
   have z1 : ¬ (sO.confs.length : Int) < (sO.confs.length : Int) := by omega
   have HRZ : Hid (R = some sO) := Lib.hid (by have := HR.out; rw [allK, if_neg (by omega)] at this; exact this)
   obtain ⟨vea, vec, hve⟩ := ownv M.out.oE
   subst hve
   obtain ⟨pPa, pPc, hvp⟩ := ownv M.out.oP
   subst hvp
   obtain ⟨pAa, pAc, hva⟩ := ownv M.out.oA
   subst hva
   have HSZ : Hid (sO.ed.length ≤ 1000000) := Lib.hid (by
    have h2 := congrArg List.length HI.out.edm
    rw [List.length_map, List.length_append, List.length_map, List.length_take] at h2
    have h3 := rowsB_len (model := model) (room := room) HRU.out HI.out.row
    omega)
   have HBU := Lib.hid (rbuild_any (sO.confs.length : Int) _ sO.ed wr (ownsRow_edges M.out.oE) HSZ.out)
   clear HR HI
   go_wp2_with (go_at_call 46; refine HBU.out.mono ?_; rintro e1 w9 ⟨vg, rfl, hG, hb9⟩; obtain ⟨sa, aa, ta, sc, ac, tc, rfl, -⟩ := hG.var; have M9 := Lib.hid (M.out.more hb9); have HG9 := Lib.hid hG; clear hG hb9 M d0 HBU; have M10 := Lib.hid (M9.out.more (balloc w9 (.cells #[.slice sa (buildG (sO.confs.length : Int) sO.ed).S.length sc, .slice aa (buildG (sO.confs.length : Int) sO.ed).A.length ac, .slice ta (buildG (sO.confs.length : Int) sO.ed).T.length tc] 30))); have d1 := cell_of_block M10.out.bs 1 (.slice none 0 0) rfl; have f1 := free_of_block M10.out.bs 1; have d2 := cell_of_block M10.out.bs 2 (.slice none 0 0) rfl; have f2 := free_of_block M10.out.bs 2; have d3 := cell_of_block M10.out.bs 3 (.slice none 0 0) rfl; have f3 := free_of_block M10.out.bs 3; have KS := Lib.hid (heap_setCell_block (i := 3) (v := (.slice ta (buildG (sO.confs.length : Int) sO.ed).T.length tc)) (heap_setCell_block (i := 2) (v := (.slice aa (buildG (sO.confs.length : Int) sO.ed).A.length ac)) (heap_setCell_block (i := 1) (v := (.slice sa (buildG (sO.confs.length : Int) sO.ed).S.length sc)) M10.out.bs))); have KR : Hid (((((w9.alloc (.cells #[.slice sa (buildG (sO.confs.length : Int) sO.ed).S.length sc, .slice aa (buildG (sO.confs.length : Int) sO.ed).A.length ac, .slice ta (buildG (sO.confs.length : Int) sO.ed).T.length tc] 30)).setCell ⟨S, 1, none⟩ (.slice sa (buildG (sO.confs.length : Int) sO.ed).S.length sc)).setCell ⟨S, 2, none⟩ (.slice aa (buildG (sO.confs.length : Int) sO.ed).A.length ac)).setCell ⟨S, 3, none⟩ (.slice ta (buildG (sO.confs.length : Int) sO.ed).T.length tc)).heap[w.heap.size + 1]? = some (.cells #[.slice none 0 0, .slice none 0 0, .slice none 0 0, .slice none 0 0, .slice none 0 0, .slice none 0 0] 32 (0, 0))) := Lib.hid (by have hS := M10.out.hS; rw [heap_set_ne (by omega), heap_set_ne (by omega), heap_set_ne (by omega)]; exact M10.out.br); have t0 := cell_of_block KS.out 0 (.slice va sO.confs.length vcpO) rfl; have r0 := cell_of_block KR.out 0 (.slice none 0 0) rfl; have q0 := free_of_block KR.out 0; have t1 := cell_of_block KS.out 1 (.slice sa (buildG (sO.confs.length : Int) sO.ed).S.length sc) rfl; have r1 := cell_of_block KR.out 1 (.slice none 0 0) rfl; have q1 := free_of_block KR.out 1; have t2 := cell_of_block KS.out 2 (.slice aa (buildG (sO.confs.length : Int) sO.ed).A.length ac) rfl; have r2 := cell_of_block KR.out 2 (.slice none 0 0) rfl; have q2 := free_of_block KR.out 2; have t3 := cell_of_block KS.out 3 (.slice ta (buildG (sO.confs.length : Int) sO.ed).T.length tc) rfl; have r3 := cell_of_block KR.out 3 (.slice none 0 0) rfl; have q3 := free_of_block KR.out 3; have t4 := cell_of_block KS.out 4 (.slice pPa sO.par.length pPc) rfl; have r4 := cell_of_block KR.out 4 (.slice none 0 0) rfl; have q4 := free_of_block KR.out 4; have t5 := cell_of_block KS.out 5 (.slice pAa sO.ag.length pAc) rfl; have r5 := cell_of_block KR.out 5 (.slice none 0 0) rfl; have q5 := free_of_block KR.out 5)
   have KB := (heap_setCell_block (i := 5) (v := (.slice pAa sO.ag.length pAc)) (heap_setCell_block (i := 4) (v := (.slice pPa sO.par.length pPc)) (heap_setCell_block (i := 3) (v := (.slice ta (buildG (sO.confs.length : Int) sO.ed).T.length tc)) (heap_setCell_block (i := 2) (v := (.slice aa (buildG (sO.confs.length : Int) sO.ed).A.length ac)) (heap_setCell_block (i := 1) (v := (.slice sa (buildG (sO.confs.length : Int) sO.ed).S.length sc)) (heap_setCell_block (i := 0) (v := (.slice va sO.confs.length vcpO)) KR.out))))))
   have y0 := cell_of_block KB 0 (.slice va sO.confs.length vcpO) rfl
   have y1 := cell_of_block KB 1 (.slice sa (buildG (sO.confs.length : Int) sO.ed).S.length sc) rfl
   have y2 := cell_of_block KB 2 (.slice aa (buildG (sO.confs.length : Int) sO.ed).A.length ac) rfl
   have y3 := cell_of_block KB 3 (.slice ta (buildG (sO.confs.length : Int) sO.ed).T.length tc) rfl
   have y4 := cell_of_block KB 4 (.slice pPa sO.par.length pPc) rfl
   have y5 := cell_of_block KB 5 (.slice pAa sO.ag.length pAc) rfl
   have hEnd := sp_end M10.out (wE := ((((((((((w9.alloc (.cells #[.slice sa (buildG (sO.confs.length : Int) sO.ed).S.length sc, .slice aa (buildG (sO.confs.length : Int) sO.ed).A.length ac, .slice ta (buildG (sO.confs.length : Int) sO.ed).T.length tc] 30)).setCell ⟨S, 1, none⟩ (.slice sa (buildG (sO.confs.length : Int) sO.ed).S.length sc)).setCell ⟨S, 2, none⟩ (.slice aa (buildG (sO.confs.length : Int) sO.ed).A.length ac)).setCell ⟨S, 3, none⟩ (.slice ta (buildG (sO.confs.length : Int) sO.ed).T.length tc)).setCell ⟨w.heap.size + 1, 0, none⟩ (.slice va sO.confs.length vcpO)).setCell ⟨w.heap.size + 1, 1, none⟩ (.slice sa (buildG (sO.confs.length : Int) sO.ed).S.length sc)).setCell ⟨w.heap.size + 1, 2, none⟩ (.slice aa (buildG (sO.confs.length : Int) sO.ed).A.length ac)).setCell ⟨w.heap.size + 1, 3, none⟩ (.slice ta (buildG (sO.confs.length : Int) sO.ed).T.length tc)).setCell ⟨w.heap.size + 1, 4, none⟩ (.slice pPa sO.par.length pPc)).setCell ⟨w.heap.size + 1, 5, none⟩ (.slice pAa sO.ag.length pAc))) ((((((((((Frm.refl (fun q => q = S ∨ q = w.heap.size + 1) _).setCell (p := ⟨S, 1, none⟩) (fun _ => .inl rfl) (.slice sa (buildG (sO.confs.length : Int) sO.ed).S.length sc)).setCell (p := ⟨S, 2, none⟩) (fun _ => .inl rfl) (.slice aa (buildG (sO.confs.length : Int) sO.ed).A.length ac)).setCell (p := ⟨S, 3, none⟩) (fun _ => .inl rfl) (.slice ta (buildG (sO.confs.length : Int) sO.ed).T.length tc)).setCell (p := ⟨w.heap.size + 1, 0, none⟩) (fun _ => .inr rfl) (.slice va sO.confs.length vcpO)).setCell (p := ⟨w.heap.size + 1, 1, none⟩) (fun _ => .inr rfl) (.slice sa (buildG (sO.confs.length : Int) sO.ed).S.length sc)).setCell (p := ⟨w.heap.size + 1, 2, none⟩) (fun _ => .inr rfl) (.slice aa (buildG (sO.confs.length : Int) sO.ed).A.length ac)).setCell (p := ⟨w.heap.size + 1, 3, none⟩) (fun _ => .inr rfl) (.slice ta (buildG (sO.confs.length : Int) sO.ed).T.length tc)).setCell (p := ⟨w.heap.size + 1, 4, none⟩) (fun _ => .inr rfl) (.slice pPa sO.par.length pPc)).setCell (p := ⟨w.heap.size + 1, 5, none⟩) (fun _ => .inr rfl) (.slice pAa sO.ag.length pAc))
   have hEnd2 := sp_end2 (vC := .slice va sO.confs.length vcpO) (x1 := (.slice sa (buildG (sO.confs.length : Int) sO.ed).S.length sc)) (x2 := (.slice aa (buildG (sO.confs.length : Int) sO.ed).A.length ac)) (x3 := (.slice ta (buildG (sO.confs.length : Int) sO.ed).T.length tc)) M10.out (wE := ((((((((((w9.alloc (.cells #[.slice sa (buildG (sO.confs.length : Int) sO.ed).S.length sc, .slice aa (buildG (sO.confs.length : Int) sO.ed).A.length ac, .slice ta (buildG (sO.confs.length : Int) sO.ed).T.length tc] 30)).setCell ⟨S, 1, none⟩ (.slice sa (buildG (sO.confs.length : Int) sO.ed).S.length sc)).setCell ⟨S, 2, none⟩ (.slice aa (buildG (sO.confs.length : Int) sO.ed).A.length ac)).setCell ⟨S, 3, none⟩ (.slice ta (buildG (sO.confs.length : Int) sO.ed).T.length tc)).setCell ⟨w.heap.size + 1, 0, none⟩ (.slice va sO.confs.length vcpO)).setCell ⟨w.heap.size + 1, 1, none⟩ (.slice sa (buildG (sO.confs.length : Int) sO.ed).S.length sc)).setCell ⟨w.heap.size + 1, 2, none⟩ (.slice aa (buildG (sO.confs.length : Int) sO.ed).A.length ac)).setCell ⟨w.heap.size + 1, 3, none⟩ (.slice ta (buildG (sO.confs.length : Int) sO.ed).T.length tc)).setCell ⟨w.heap.size + 1, 4, none⟩ (.slice pPa sO.par.length pPc)).setCell ⟨w.heap.size + 1, 5, none⟩ (.slice pAa sO.ag.length pAc))) ((((((((((Frm.refl (fun q => q = S ∨ q = w.heap.size + 1) _).setCell (p := ⟨S, 1, none⟩) (fun _ => .inl rfl) (.slice sa (buildG (sO.confs.length : Int) sO.ed).S.length sc)).setCell (p := ⟨S, 2, none⟩) (fun _ => .inl rfl) (.slice aa (buildG (sO.confs.length : Int) sO.ed).A.length ac)).setCell (p := ⟨S, 3, none⟩) (fun _ => .inl rfl) (.slice ta (buildG (sO.confs.length : Int) sO.ed).T.length tc)).setCell (p := ⟨w.heap.size + 1, 0, none⟩) (fun _ => .inr rfl) (.slice va sO.confs.length vcpO)).setCell (p := ⟨w.heap.size + 1, 1, none⟩) (fun _ => .inr rfl) (.slice sa (buildG (sO.confs.length : Int) sO.ed).S.length sc)).setCell (p := ⟨w.heap.size + 1, 2, none⟩) (fun _ => .inr rfl) (.slice aa (buildG (sO.confs.length : Int) sO.ed).A.length ac)).setCell (p := ⟨w.heap.size + 1, 3, none⟩) (fun _ => .inr rfl) (.slice ta (buildG (sO.confs.length : Int) sO.ed).T.length tc)).setCell (p := ⟨w.heap.size + 1, 4, none⟩) (fun _ => .inr rfl) (.slice pPa sO.par.length pPc)).setCell (p := ⟨w.heap.size + 1, 5, none⟩) (fun _ => .inr rfl) (.slice pAa sO.ag.length pAc))
   have hG1 := (HG9.out.below (balloc w9 (.cells #[.slice sa (buildG (sO.confs.length : Int) sO.ed).S.length sc, .slice aa (buildG (sO.confs.length : Int) sO.ed).A.length ac, .slice ta (buildG (sO.confs.length : Int) sO.ed).T.length tc] 30))).offC (w' := ((((w9.alloc (.cells #[.slice sa (buildG (sO.confs.length : Int) sO.ed).S.length sc, .slice aa (buildG (sO.confs.length : Int) sO.ed).A.length ac, .slice ta (buildG (sO.confs.length : Int) sO.ed).T.length tc] 30)).setCell ⟨S, 1, none⟩ (.slice sa (buildG (sO.confs.length : Int) sO.ed).S.length sc)).setCell ⟨S, 2, none⟩ (.slice aa (buildG (sO.confs.length : Int) sO.ed).A.length ac)).setCell ⟨S, 3, none⟩ (.slice ta (buildG (sO.confs.length : Int) sO.ed).T.length tc))) M10.out.bs (by intro i x h; rcases i with _ | _ | _ | _ | _ | _ | i <;> simp at h) ((((Frm.refl (fun q => q = S) _).setCell (p := ⟨S, 1, none⟩) (fun _ => rfl) (.slice sa (buildG (sO.confs.length : Int) sO.ed).S.length sc)).setCell (p := ⟨S, 2, none⟩) (fun _ => rfl) (.slice aa (buildG (sO.confs.length : Int) sO.ed).A.length ac)).setCell (p := ⟨S, 3, none⟩) (fun _ => rfl) (.slice ta (buildG (sO.confs.length : Int) sO.ed).T.length tc))
   have hG2 := hG1.offC (w' := ((((((((((w9.alloc (.cells #[.slice sa (buildG (sO.confs.length : Int) sO.ed).S.length sc, .slice aa (buildG (sO.confs.length : Int) sO.ed).A.length ac, .slice ta (buildG (sO.confs.length : Int) sO.ed).T.length tc] 30)).setCell ⟨S, 1, none⟩ (.slice sa (buildG (sO.confs.length : Int) sO.ed).S.length sc)).setCell ⟨S, 2, none⟩ (.slice aa (buildG (sO.confs.length : Int) sO.ed).A.length ac)).setCell ⟨S, 3, none⟩ (.slice ta (buildG (sO.confs.length : Int) sO.ed).T.length tc)).setCell ⟨w.heap.size + 1, 0, none⟩ (.slice va sO.confs.length vcpO)).setCell ⟨w.heap.size + 1, 1, none⟩ (.slice sa (buildG (sO.confs.length : Int) sO.ed).S.length sc)).setCell ⟨w.heap.size + 1, 2, none⟩ (.slice aa (buildG (sO.confs.length : Int) sO.ed).A.length ac)).setCell ⟨w.heap.size + 1, 3, none⟩ (.slice ta (buildG (sO.confs.length : Int) sO.ed).T.length tc)).setCell ⟨w.heap.size + 1, 4, none⟩ (.slice pPa sO.par.length pPc)).setCell ⟨w.heap.size + 1, 5, none⟩ (.slice pAa sO.ag.length pAc))) KR.out (by intro i x h; rcases i with _ | _ | _ | _ | _ | _ | i <;> simp at h) (((((((Frm.refl (fun q => q = w.heap.size + 1) _).setCell (p := ⟨w.heap.size + 1, 0, none⟩) (fun _ => rfl) (.slice va sO.confs.length vcpO)).setCell (p := ⟨w.heap.size + 1, 1, none⟩) (fun _ => rfl) (.slice sa (buildG (sO.confs.length : Int) sO.ed).S.length sc)).setCell (p := ⟨w.heap.size + 1, 2, none⟩) (fun _ => rfl) (.slice aa (buildG (sO.confs.length : Int) sO.ed).A.length ac)).setCell (p := ⟨w.heap.size + 1, 3, none⟩) (fun _ => rfl) (.slice ta (buildG (sO.confs.length : Int) sO.ed).T.length tc)).setCell (p := ⟨w.heap.size + 1, 4, none⟩) (fun _ => rfl) (.slice pPa sO.par.length pPc)).setCell (p := ⟨w.heap.size + 1, 5, none⟩) (fun _ => rfl) (.slice pAa sO.ag.length pAc))
   refine bodyPost_ret (v := .tuple #[.agg #[.slice va sO.confs.length vcpO, .slice sa (buildG (sO.confs.length : Int) sO.ed).S.length sc, .slice aa (buildG (sO.confs.length : Int) sO.ed).A.length ac, .slice ta (buildG (sO.confs.length : Int) sO.ed).T.length tc, .slice pPa sO.par.length pPc, .slice pAa sO.ag.length pAc], .int .i64 0]) (by simp [results, Try.results27, go_sem, y0, y1, y2, y3, y4, y5]) rfl ?_
   rw [HRZ.out]
   exact ⟨⟨_, rfl, ⟨_, _, _, _, _, _, _, _, _, rfl, hEnd.1, hG2, hEnd.2.1, hEnd.2.2.1⟩, hEnd2⟩, hEnd.2.2.2⟩
end Go.Proofs.Ytlhpjfnfemebdaa
