/-
  spinnakerlaw30.CoverEnds: the walk. (Written by a generator.)
-/
import Derived.Test.YtlhpjfnfemebdaaCovE
import Derived.Test.YtlhpjfnfemebdaaJCovU
import Derived.Test.YtlhpjfnfemebdaaEndP
import Derived.Test.YtlhpjfnfemebdaaKn30
import Derived.Test.YtlhpjfnfemebdaaJMade30
namespace Go.Proofs.Ytlhpjfnfemebdaa
open Go.RowKit
set_option maxRecDepth 100000 in
set_option maxHeartbeats 64000000 in
theorem coverEnds (v : Value) (u : PUn) (model room budget : Int) (w : World) (h : CaseV w v u model room budget) :
  Calls Try.prog 5 #[v] w fun e w' => e = .returned (.bool true) ∧ Below w.heap.size w w' := by
 obtain ⟨vi, vr, vc, rfl, hu⟩ := h.ex
 have HMA := Lib.hid (fun (w' : World) (hb : Below w.heap.size w w') => made_ok _ u model room budget w' (h.below hb))
 have HUV := Lib.hid (fun (w' : World) (hb : Below w.heap.size w w') => hu.below hb)
 have HKN := Lib.hid known30
 have S0 := Lib.hid (BxS.start w #[.int .i64 u.mod, vi, vr, vc, .int .i64 model, .int .i64 room, .int .i64 budget] 27)
 have c0 := cell_of_block S0.out.blk 0 (.int .i64 u.mod) rfl
 have c1 := cell_of_block S0.out.blk 1 vi rfl
 have c2 := cell_of_block S0.out.blk 2 vr rfl
 have c3 := cell_of_block S0.out.blk 3 vc rfl
 have c4 := cell_of_block S0.out.blk 4 (.int .i64 model) rfl
 have c5 := cell_of_block S0.out.blk 5 (.int .i64 room) rfl
 have c6 := cell_of_block S0.out.blk 6 (.int .i64 budget) rfl
 obtain ⟨vi', vr', vc', e, ⟨ai, ci, rfl, -⟩, ⟨ar, cr, rfl, -⟩, ⟨ac, cc, rfl, -⟩⟩ := id hu
 simp only [Value.agg.injEq, Array.mk.injEq, List.cons.injEq, and_true, true_and] at e
 obtain ⟨rfl, rfl, rfl⟩ := e
 clear h hu
 cases hR : madeS u model room budget with
 | none =>
  rw [hR] at HMA
  clear hR
  go_enter Try.func5, Try.ntmps5
  go_wp2_with (first
   | (go_at_call 8; refine (HKN.out _).mono ?_; rintro e w3 ⟨rfl, hb3⟩; have S3 := Lib.hid (S2.out.more hb3); clear hb3)
   | (go_at_call 7; refine (HMA.out _ S0.out.below).mono ?_; rintro e w2 ⟨rfl, hb2⟩; have S2 := Lib.hid ((S0.out.more hb2).more (balloc w2 (.cells #[.slice none 0 0, .slice none 0 0, .slice none 0 0, .slice none 0 0, .slice none 0 0, .slice none 0 0] 32))); clear hb2))
  go_ret
  exact ⟨rfl, S3.out.below⟩
 | some s =>
  obtain ⟨hG, hL⟩ := made_good hR
  have hR0 := hR
  rw [hR] at HMA
  clear hR
  have HG := Lib.hid hG
  have HL := Lib.hid hL
  have hmr := made_range hR0
  obtain ⟨hRt, hNN, hmemE, -⟩ := sp_right hG.ok
  have HDA := Lib.hid (fun (w' : World) (uv sv : Value) (h1 : UnV w' uv u) (h2 : SpV w' sv s) => done30_ok uv sv u s model w' h1 h2 hG.right hG.ok hG.cf)
  have HAG := Lib.hid (fun (w' : World) (uv : Value) (h1 : UnV w' uv u) => agents_ok uv u model w' h1 hG.right hL)
  have HAC := Lib.hid (fun (w' : World) (sv : Value) (h2 : SpV w' sv s) => acting_any sv s (agN u model : Nat) w' h2 hG.ok hG.ag100)
  have HEA := Lib.hid (fun (w' : World) (uv sv : Value) (h1 : UnV w' uv u) (h2 : SpV w' sv s) => enabled15_ok uv sv u s model room w' h1 h2 hG.right hL hG.le hG.cf)
  have HSA := Lib.hid (fun (w' : World) (sv : Value) (h2 : SpV w' sv s) => spins_ok sv s w' h2 hG.ok hG.le)
  have HWE := Lib.hid (fun (w' : World) (gv ev : Value) (h1 : GraphAt w' gv (buildG (s.confs.length : Int) s.ed)) (h2 : BRowsAt w' ev (enS u s model room)) => rweak_ok gv ev _ _ (agN u model : Nat) w' h1 h2 (by rw [hNN]; have := hG.le; omega))
  have HTL : Hid (u.code.length ≤ 4 ∧ ∀ t, t < u.code.length → 1 ≤ (u.code.getD t []).length ∧ (u.code.getD t []).length ≤ 1000) := Lib.hid (by
   obtain ⟨-, -, -, ⟨-, hT4⟩, hcr, hrw⟩ := rightU_iff.1 hG.right
   exact ⟨by rw [hcr]; exact hT4, fun t ht => (rowU_iff.1 (hrw t (by rw [← hcr]; exact ht))).2.1⟩)
  have HDN0 : Hid ((doneL (allL (buildG (s.confs.length : Int) s.ed)) s.confs u).length = u.code.length ∧ ∀ t, t < u.code.length → ((doneL (allL (buildG (s.confs.length : Int) s.ed)) s.confs u).getD t []).length = (u.code.getD t []).length ∧ ((doneL (allL (buildG (s.confs.length : Int) s.ed)) s.confs u).getD t []).getD ((u.code.getD t []).length - 1) false = false) := Lib.hid ⟨tab_len _ _, fun t ht => by
   obtain ⟨h1, h2⟩ := hG.last hmr ht
   unfold doneL
   rw [tab_get _ _ _ _ ht]
   refine ⟨doneRow_len _ _ _ _, ?_⟩
   unfold doneRow
   rw [tab_get _ _ _ _ (by omega), h2]⟩
  have HCD0 : Hid (∀ t, t < u.code.length → ∃ b o a c, ac = some ⟨b, o, none⟩ ∧ w.cell? ⟨b, o + t, none⟩ = some (.slice a (u.code.getD t []).length c)) := Lib.hid (fun t ht => by
   obtain ⟨v1, v2, v3, e, -, -, ⟨a1, c1, e2, hcd⟩⟩ := HUV.out w (Below.refl _ _)
   simp only [Value.agg.injEq, Array.mk.injEq, List.cons.injEq, and_true, true_and] at e
   rw [← e.2.2] at e2
   simp only [Value.slice.injEq, true_and] at e2
   obtain ⟨e3, -⟩ := e2
   obtain ⟨b, o, x, e4, hx, a, c, e5, -⟩ := hcd t ht
   exact ⟨b, o, a, c, by rw [e3, e4], by rw [hx, e5]⟩)
  have hagn := agN_le hG.right model
  have HSU0 := Lib.hid hG.ltA_zero
  have HSU1 := Lib.hid hG.ltA_all
  have HSL := Lib.hid (ltA_le (allL (buildG (s.confs.length : Int) s.ed)))
  have HSS := Lib.hid (ltA_succ (allL (buildG (s.confs.length : Int) s.ed)))
  have HLL : Hid ((allL (buildG (s.confs.length : Int) s.ed)).length ≤ 28000000) := Lib.hid (by
   have h1 := List.countP_eq_length.2 (fun e (_ : e ∈ allL (buildG (s.confs.length : Int) s.ed)) => (rfl : (fun _ => true) e = true))
   rw [countP_allc (fun _ => true) hG.ok] at h1
   have := List.countP_le_length (p := fun _ => true) (l := s.ed)
   have := hG.edl
   omega)
  have HAL : Hid ((actI (allL (buildG (s.confs.length : Int) s.ed)) (agN u model : Nat)).length = agN u model ∧ ∀ a, a < agN u model → (actI (allL (buildG (s.confs.length : Int) s.ed)) (agN u model : Nat)).getD a 0 = ((allL (buildG (s.confs.length : Int) s.ed)).countP (fun e => decide (e.2.1 = (a : Int))) : Int)) := Lib.hid (by
   unfold actI
   rw [if_neg (by omega), Int.toNat_natCast]
   unfold actL
   exact ⟨tab_len _ _, fun a ha => tab_get _ _ _ _ ha⟩)
  have HWL0 : Hid (∀ x ∈ weakL (buildG (s.confs.length : Int) s.ed) (enS u s model room) (agN u model : Nat), x ∈ spinL (buildG (s.confs.length : Int) s.ed) s.confs.length) := Lib.hid (fun x hx => by have := weak_spin hRt hx; rwa [hNN] at this)
  have hwll : (weakL (buildG (s.confs.length : Int) s.ed) (enS u s model room) (agN u model : Nat)).length ≤ 500 := by have := weakL_len' (g := buildG (s.confs.length : Int) s.ed) (en := enS u s model room) (ag := (agN u model : Nat)); rw [hNN] at this; have := hG.le; omega
  have hsll : (spinL (buildG (s.confs.length : Int) s.ed) s.confs.length).length ≤ 500 := by have := spinK_len (buildG (s.confs.length : Int) s.ed) s.confs.length; have := hG.le; show (spinK _ _).length ≤ _; omega
  have hpos := hG.pos
  have hle := hG.le
  clear hRt hNN hmemE hmr
  generalize weakL (buildG (s.confs.length : Int) s.ed) (enS u s model room) (agN u model : Nat) = WK at *
  generalize spinL (buildG (s.confs.length : Int) s.ed) s.confs.length = PL at *
  generalize enS u s model room = ES at *
  generalize actI (allL (buildG (s.confs.length : Int) s.ed)) (agN u model : Nat) = AL at *
  generalize doneL (allL (buildG (s.confs.length : Int) s.ed)) s.confs u = DN at *
  generalize allL (buildG (s.confs.length : Int) s.ed) = AE at *
  generalize agN u model = ag at *
  obtain ⟨LN, hLN⟩ : ∃ LN : Nat → Nat, LN = fun t => (u.code.getD t []).length := ⟨_, rfl⟩
  have HDN2 : Hid (DN.length = u.code.length ∧ ∀ t, t < u.code.length → (DN.getD t []).length = LN t ∧ (DN.getD t []).getD (LN t - 1) false = false) := Lib.hid (by rw [hLN]; exact HDN0.out)
  have HTL2 : Hid (u.code.length ≤ 4 ∧ ∀ t, t < u.code.length → 1 ≤ LN t ∧ LN t ≤ 1000) := Lib.hid (by rw [hLN]; exact HTL.out)
  have HCD : Hid (∀ t, t < u.code.length → ∃ b o a c, ac = some ⟨b, o, none⟩ ∧ w.cell? ⟨b, o + t, none⟩ = some (.slice a (LN t) c)) := Lib.hid (by rw [hLN]; exact HCD0.out)
  clear HDN0 HTL hLN HCD0
  obtain ⟨T, hT⟩ : ∃ T, T = u.code.length := ⟨_, rfl⟩
  rw [← hT] at HDN2 HTL2 HCD
  have HTT := Lib.hid hT
  clear hT
  clear hG hL hR0
  go_enter Try.func5, Try.ntmps5
  go_wp2_with (first
   | (go_at_call 9; refine (HDA.out _ _ _ (HUV.out _ S2.out.below) S2.out.sv).mono ?_; rintro e w3 ⟨dv, rfl, hd, hb3⟩; have S3 := Lib.hid (S2.out.more hb3); have GA3 := Lib.hid ((HGA.out.below (balloc w2 _)).below hb3); obtain ⟨da, dc, rfl, -⟩ := id hd; have D3 := Lib.hid hd; clear hd hb3 S2 HGA HCF; clear c0 c1 c2 c3 c4 c5 c6 d0 d1 d2 d3 d4 d5; have hdl := HDN2.out.1; rw [hdl])
   | (go_at_call 7; refine (HMA.out _ S0.out.below).mono ?_; rintro e w2 ⟨⟨sv, rfl, hsv⟩, hb2⟩; obtain ⟨uc, n, uk, s1, nS, up, ua, nA, uq, ut, nT, ur, ux, nP, uy, uz, nB, ub, rfl, hn⟩ := hsv.six; have HNN := Lib.hid hn; obtain ⟨vC9, sa9, sc9, aa9, ac9, ta9, tc9, vP9, vA9, e9, hC9, hg9, -, -⟩ := id hsv.var; simp only [Value.agg.injEq, Array.mk.injEq, List.cons.injEq, and_true] at e9; have HGA := Lib.hid (show GraphAt w2 (.agg #[.slice s1 nS up, .slice ua nA uq, .slice ut nT ur]) (buildG (s.confs.length : Int) s.ed) by rw [e9.2.1, e9.2.2.1, e9.2.2.2.1]; exact hg9); have HNT := Lib.hid (show nT = (buildG (s.confs.length : Int) s.ed).T.length by have := e9.2.2.2.1; simp only [Value.slice.injEq] at this; exact this.2.1); have HCF := Lib.hid (show ConfsAt w2 (.slice uc n uk) s.confs by rw [e9.1]; exact hC9); clear hC9 hg9 e9; have X2 := S0.out.more hb2; have S2 := Lib.hid (LS.start X2.below X2.blk hsv); clear hsv hb2 hn X2; clear c0 c1 c2 c3 c4 c5 c6; have c0 := cell_of_block S2.out.bc 0 (.int .i64 u.mod) rfl; have c1 := cell_of_block S2.out.bc 1 (.slice ai u.init.length ci) rfl; have c2 := cell_of_block S2.out.bc 2 (.slice ar u.regs.length cr) rfl; have c3 := cell_of_block S2.out.bc 3 (.slice ac u.code.length cc) rfl; have c4 := cell_of_block S2.out.bc 4 (.int .i64 model) rfl; have c5 := cell_of_block S2.out.bc 5 (.int .i64 room) rfl; have c6 := cell_of_block S2.out.bc 6 (.int .i64 budget) rfl; have d0 := cell_of_block S2.out.bs 0 (.slice uc n uk) rfl; have d1 := cell_of_block S2.out.bs 1 (.slice s1 nS up) rfl; have d2 := cell_of_block S2.out.bs 2 (.slice ua nA uq) rfl; have d3 := cell_of_block S2.out.bs 3 (.slice ut nT ur) rfl; have d4 := cell_of_block S2.out.bs 4 (.slice ux nP uy) rfl; have d5 := cell_of_block S2.out.bs 5 (.slice uz nB ub) rfl))
  generalize w2.heap.size = b9 at *
  have hT4 := HTL2.out.1
  go_loopg [6] T (fun fu c wr => ∃ t : Nat, t + fu = T ∧ c = .int .i64 t ∧ Hid (Below w3.heap.size w3 wr))
  case atStart => exact ⟨0, by omega, rfl, Lib.hid (Below.refl _ _)⟩
  case round =>
   obtain ⟨t, ht, rfl, HB⟩ := hrel
   have S := Lib.hid (S3.out.more HB.out)
   by_cases hlt : t < T
   ·have z1 : (t : Int) < (T : Int) := by omega
    obtain ⟨hrl, hrv⟩ := HDN2.out.2 t hlt
    obtain ⟨hl1, hl2⟩ := HTL2.out.2 t hlt
    obtain ⟨da', dc', e0, hD⟩ := D3.out.below HB.out
    simp only [Value.slice.injEq] at e0
    obtain ⟨rfl, -, -⟩ := e0
    obtain ⟨b1, o1, v1, rfl, y1, hB1⟩ := hD t (by rw [HDN2.out.1]; exact hlt)
    obtain ⟨p1, q1, rfl, hB1⟩ := hB1
    rw [hrl] at y1 hB1
    obtain ⟨b2, o2, rfl, y2⟩ := hB1 (LN t - 1) (by omega)
    rw [hrv] at y2
    obtain ⟨b3, o3, a3, c3, rfl, y3⟩ := HCD.out t hlt
    have y3 := bkeep S.out.below y3
    have y4 := cell_of_block S.out.bc 3 (.slice (some ⟨b3, o3, none⟩) u.code.length cc) rfl
    rw [← HTT.out] at y4
    have f1 : ∀ j : Sub wr, j.1.cell? ⟨b1, o1 + t, none⟩ = _ := fun j => j.cell y1
    have f2 : ∀ j : Sub wr, j.1.cell? ⟨b2, o2 + (LN t - 1), none⟩ = _ := fun j => j.cell y2
    have f3 : ∀ j : Sub wr, j.1.cell? ⟨b3, o3 + t, none⟩ = _ := fun j => j.cell y3
    have f4 : ∀ j : Sub wr, j.1.cell? ⟨w.heap.size, 3, none⟩ = _ := fun j => j.cell y4
    clear hD hB1 y1 y2 y3 y4 hrl hrv
    have e1 : IntKind.i64.wrap ((LN t : Int) - 1) = ((LN t - 1 : Nat) : Int) := by rw [IntWalk.i64_in _ (by omega)]; omega
    have z2 : ((LN t - 1 : Nat) : Int) < (LN t : Int) := by omega
    generalize LN t - 1 = li at *
    generalize LN t = lt at *
    go_wp2_with fail
    refine region_below (by kernel_rfl) (by kernel_rfl) ?_
    repeat (go_big_quiet_step (fail))
    refine wpQuiet_nil ?_
    intro w6 hb6
    have HB6 := Lib.hid (HB.out.trans (hb6.mono HB.out.size))
    clear hb6
    go_wp2_with fail
    go_roundg (T - (t + 1))
    case measure => omega
    case rel => exact ⟨t + 1, by omega, by simp, HB6⟩
   ·obtain rfl : t = T := by omega
    have z1 : ¬ (t : Int) < (t : Int) := by omega
    have GA := Lib.hid (GA3.out.below HB.out)
    have c0 := cell_of_block S.out.bc 0 (.int .i64 u.mod) rfl
    have c1 := cell_of_block S.out.bc 1 (.slice ai u.init.length ci) rfl
    have c2 := cell_of_block S.out.bc 2 (.slice ar u.regs.length cr) rfl
    have c3 := cell_of_block S.out.bc 3 (.slice ac u.code.length cc) rfl
    have c4 := cell_of_block S.out.bc 4 (.int .i64 model) rfl
    have c5 := cell_of_block S.out.bc 5 (.int .i64 room) rfl
    have c6 := cell_of_block S.out.bc 6 (.int .i64 budget) rfl
    have d0 := cell_of_block S.out.bs 0 (.slice uc n uk) rfl
    have d1 := cell_of_block S.out.bs 1 (.slice s1 nS up) rfl
    have d2 := cell_of_block S.out.bs 2 (.slice ua nA uq) rfl
    have d3 := cell_of_block S.out.bs 3 (.slice ut nT ur) rfl
    have d4 := cell_of_block S.out.bs 4 (.slice ux nP uy) rfl
    have d5 := cell_of_block S.out.bs 5 (.slice uz nB ub) rfl
    go_wp2_with (first
     | (go_at_call 17; refine (HAC.out _ _ S4.out.sv).mono ?_; rintro e w5 ⟨rv, rfl, hi, hb⟩; have S5 := Lib.hid (S4.out.more hb); have GA5 := Lib.hid (GA4.out.below hb); obtain ⟨la, lc, rfl, -⟩ := id hi; have I5 := Lib.hid hi; clear hi hb S4 GA4; clear c0 c1 c2 c3 c4 c5 c6 d0 d1 d2 d3 d4 d5)
     | (go_at_call 22; refine (HAG.out _ _ (HUV.out _ S.out.below)).mono ?_; rintro e w4 ⟨rfl, hb⟩; have S4 := Lib.hid (S.out.more hb); have GA4 := Lib.hid (GA.out.below hb); clear hb S GA; clear c0 c1 c2 c3 c4 c5 c6 d0 d1 d2 d3 d4 d5; have c0 := cell_of_block S4.out.bc 0 (.int .i64 u.mod) rfl; have c1 := cell_of_block S4.out.bc 1 (.slice ai u.init.length ci) rfl; have c2 := cell_of_block S4.out.bc 2 (.slice ar u.regs.length cr) rfl; have c3 := cell_of_block S4.out.bc 3 (.slice ac u.code.length cc) rfl; have c4 := cell_of_block S4.out.bc 4 (.int .i64 model) rfl; have c5 := cell_of_block S4.out.bc 5 (.int .i64 room) rfl; have c6 := cell_of_block S4.out.bc 6 (.int .i64 budget) rfl; have d0 := cell_of_block S4.out.bs 0 (.slice uc n uk) rfl; have d1 := cell_of_block S4.out.bs 1 (.slice s1 nS up) rfl; have d2 := cell_of_block S4.out.bs 2 (.slice ua nA uq) rfl; have d3 := cell_of_block S4.out.bs 3 (.slice ut nT ur) rfl; have d4 := cell_of_block S4.out.bs 4 (.slice ux nP uy) rfl; have d5 := cell_of_block S4.out.bs 5 (.slice uz nB ub) rfl))
    have hall := HAL.out.1
    rw [hall]
    clear hall
    go_loopg [9, 10] ag (fun fu sv c wr => ∃ k : Nat, k + fu = ag ∧ c = .int .i64 k ∧ sv = .int .i64 (ltA AE k : Nat) ∧ Hid (Below w5.heap.size w5 wr))
    case atStart => exact ⟨0, by omega, rfl, by rw [HSU0.out]; rfl, Lib.hid (Below.refl _ _)⟩
    case round =>
     obtain ⟨k, hk, rfl, rfl, HB5⟩ := hrel
     by_cases hka : k < ag
     ·have z2 : (k : Int) < (ag : Int) := by omega
      obtain ⟨la', lc', e0, hI⟩ := I5.out.below HB5.out
      simp only [Value.slice.injEq] at e0
      obtain ⟨rfl, -, -⟩ := e0
      obtain ⟨b7, o7, rfl, y7⟩ := hI k (by rw [HAL.out.1]; exact hka)
      rw [HAL.out.2 k hka] at y7
      have h1 := HSL.out k
      have h2 := HSL.out (k + 1)
      have h3 := HSS.out k
      have h4 := HLL.out
      rw [h3] at h2
      have HS3 := Lib.hid h3
      have e1 : IntKind.i64.wrap ((ltA AE k : Int) + (AE.countP (fun e => decide (e.2.1 = (k : Int))) : Int)) = (ltA AE k : Int) + (AE.countP (fun e => decide (e.2.1 = (k : Int))) : Int) := IntWalk.i64_in _ (by omega)
      clear hI h1 h2 h3 h4
      generalize ltA AE k = lk at *
      generalize AE.countP (fun e => decide (e.2.1 = (k : Int))) = ck at *
      go_wp2_with fail
      go_roundg (ag - (k + 1))
      case measure => omega
      case rel => exact ⟨k + 1, by omega, by simp, by rw [HS3.out]; simp, HB5⟩
     ·obtain rfl : k = ag := by omega
      have z2 : ¬ (k : Int) < (k : Int) := by omega
      have S6 := Lib.hid (S5.out.more HB5.out)
      have GA6 := Lib.hid (GA5.out.below HB5.out)
      have c0 := cell_of_block S6.out.bc 0 (.int .i64 u.mod) rfl
      have c1 := cell_of_block S6.out.bc 1 (.slice ai u.init.length ci) rfl
      have c2 := cell_of_block S6.out.bc 2 (.slice ar u.regs.length cr) rfl
      have c3 := cell_of_block S6.out.bc 3 (.slice ac u.code.length cc) rfl
      have c4 := cell_of_block S6.out.bc 4 (.int .i64 model) rfl
      have c5 := cell_of_block S6.out.bc 5 (.int .i64 room) rfl
      have c6 := cell_of_block S6.out.bc 6 (.int .i64 budget) rfl
      have d0 := cell_of_block S6.out.bs 0 (.slice uc n uk) rfl
      have d1 := cell_of_block S6.out.bs 1 (.slice s1 nS up) rfl
      have d2 := cell_of_block S6.out.bs 2 (.slice ua nA uq) rfl
      have d3 := cell_of_block S6.out.bs 3 (.slice ut nT ur) rfl
      have d4 := cell_of_block S6.out.bs 4 (.slice ux nP uy) rfl
      have d5 := cell_of_block S6.out.bs 5 (.slice uz nB ub) rfl
      rw [HSU1.out, ← HNT.out]
      go_wp2_with (first
       | (go_at_call 24; refine (HWE.out _ _ _ GA8.out E8.out).mono ?_; rintro e w9 ⟨rv, rfl, hi, hb⟩; have S9 := Lib.hid (S8.out.more hb); have P9 := Lib.hid (P8.out.below hb); obtain ⟨wa, wc, rfl, -⟩ := id hi; have W9 := Lib.hid hi; clear hi hb S8 GA8 E8 P8; clear c0 c1 c2 c3 c4 c5 c6 d0 d1 d2 d3 d4 d5)
       | (go_at_call 19; refine (HSA.out _ _ S7.out.sv).mono ?_; rintro e w8 ⟨rv, rfl, hi, hb⟩; have S8 := Lib.hid (S7.out.more hb); have GA8 := Lib.hid (GA7.out.below hb); have E8 := Lib.hid (E7.out.below hb); obtain ⟨pa, pc, rfl, -⟩ := id hi; have P8 := Lib.hid hi; clear hi hb S7 GA7 E7; clear c0 c1 c2 c3 c4 c5 c6 d0 d1 d2 d3 d4 d5; have c0 := cell_of_block S8.out.bc 0 (.int .i64 u.mod) rfl; have c1 := cell_of_block S8.out.bc 1 (.slice ai u.init.length ci) rfl; have c2 := cell_of_block S8.out.bc 2 (.slice ar u.regs.length cr) rfl; have c3 := cell_of_block S8.out.bc 3 (.slice ac u.code.length cc) rfl; have c4 := cell_of_block S8.out.bc 4 (.int .i64 model) rfl; have c5 := cell_of_block S8.out.bc 5 (.int .i64 room) rfl; have c6 := cell_of_block S8.out.bc 6 (.int .i64 budget) rfl; have d0 := cell_of_block S8.out.bs 0 (.slice uc n uk) rfl; have d1 := cell_of_block S8.out.bs 1 (.slice s1 nS up) rfl; have d2 := cell_of_block S8.out.bs 2 (.slice ua nA uq) rfl; have d3 := cell_of_block S8.out.bs 3 (.slice ut nT ur) rfl; have d4 := cell_of_block S8.out.bs 4 (.slice ux nP uy) rfl; have d5 := cell_of_block S8.out.bs 5 (.slice uz nB ub) rfl)
       | (go_at_call 23; refine (HEA.out _ _ _ (HUV.out _ S6.out.below) S6.out.sv).mono ?_; rintro e w7 ⟨rv, rfl, hi, hb⟩; have S7 := Lib.hid (S6.out.more hb); have GA7 := Lib.hid (GA6.out.below hb); obtain ⟨ea, ec, rfl, -⟩ := id hi; have E7 := Lib.hid hi; clear hi hb S6 GA6; clear c0 c1 c2 c3 c4 c5 c6 d0 d1 d2 d3 d4 d5; have c0 := cell_of_block S7.out.bc 0 (.int .i64 u.mod) rfl; have c1 := cell_of_block S7.out.bc 1 (.slice ai u.init.length ci) rfl; have c2 := cell_of_block S7.out.bc 2 (.slice ar u.regs.length cr) rfl; have c3 := cell_of_block S7.out.bc 3 (.slice ac u.code.length cc) rfl; have c4 := cell_of_block S7.out.bc 4 (.int .i64 model) rfl; have c5 := cell_of_block S7.out.bc 5 (.int .i64 room) rfl; have c6 := cell_of_block S7.out.bc 6 (.int .i64 budget) rfl; have d0 := cell_of_block S7.out.bs 0 (.slice uc n uk) rfl; have d1 := cell_of_block S7.out.bs 1 (.slice s1 nS up) rfl; have d2 := cell_of_block S7.out.bs 2 (.slice ua nA uq) rfl; have d3 := cell_of_block S7.out.bs 3 (.slice ut nT ur) rfl; have d4 := cell_of_block S7.out.bs 4 (.slice ux nP uy) rfl; have d5 := cell_of_block S7.out.bs 5 (.slice uz nB ub) rfl))
      go_loopg [14] WK.length (fun fu c wr => ∃ q : Nat, q + fu = WK.length ∧ c = .int .i64 q ∧ Hid (Below w9.heap.size w9 wr))
      case atStart => exact ⟨0, by omega, rfl, Lib.hid (Below.refl _ _)⟩
      case round =>
       obtain ⟨q, hq, rfl, HB9⟩ := hrel
       by_cases hqw : q < WK.length
       ·have z3 : (q : Int) < (WK.length : Int) := by omega
        obtain ⟨wa', wc', e0, hI⟩ := W9.out.below HB9.out
        simp only [Value.slice.injEq] at e0
        obtain ⟨rfl, -, -⟩ := e0
        obtain ⟨b7, o7, rfl, y7⟩ := hI q hqw
        have HIN : Hid (PL.any (fun y => decide (y = WK.getD q 0)) = true) := Lib.hid (by
         rw [List.any_eq_true]
         exact ⟨WK.getD q 0, HWL0.out _ (by simp [List.getD, hqw]), decide_eq_true rfl⟩)
        have HY7 := Lib.hid y7
        clear hI y7
        generalize WK.getD q 0 = xq at *
        go_wp2_with fail
        go_loopg [15, 16] PL.length (fun fu bv c wr => ∃ k2 : Nat, k2 + fu = PL.length ∧ c = .int .i64 k2 ∧ bv = .bool ((PL.take k2).any (fun y => decide (y = xq))) ∧ Hid (Below w9.heap.size w9 wr) ∧ Hid (wr.cell? ⟨b7, o7 + q, none⟩ = some (.int .i64 xq)))
        case atStart => exact ⟨0, by omega, rfl, rfl, HB9, HY7⟩
        case round =>
         clear HB9 HY7
         obtain ⟨k2, hk2, rfl, rfl, HB9, HY⟩ := hrel
         by_cases hkp : k2 < PL.length
         ·have z4 : (k2 : Int) < (PL.length : Int) := by omega
          obtain ⟨pa', pc', e0, hI⟩ := P9.out.below HB9.out
          simp only [Value.slice.injEq] at e0
          obtain ⟨rfl, -, -⟩ := e0
          obtain ⟨b8, o8, rfl, y8⟩ := hI k2 hkp
          have hss := any_take (x := xq) hkp
          have f1 : ∀ j : Sub wr, j.1.cell? ⟨b7, o7 + q, none⟩ = _ := fun j => j.cell HY.out
          have f2 : ∀ j : Sub wr, j.1.cell? ⟨b8, o8 + k2, none⟩ = _ := fun j => j.cell y8
          clear hI y8
          go_wp2_with fail
          generalize PL.getD k2 0 = yk at *
          cases hsb : (PL.take k2).any (fun y => decide (y = xq))
          all_goals rw [hsb] at hss
          ·by_cases hpv : yk = xq
           ·have E : Hid ((PL.take (k2 + 1)).any (fun y => decide (y = xq)) = true) := Lib.hid (by rw [hss, decide_eq_true hpv]; rfl)
            have hpb : (yk == xq) = true := beq_iff_eq.2 hpv
            clear hss hsb
            refine region_below (by kernel_rfl) (by kernel_rfl) ?_
            repeat (go_big_quiet_step (fail))
            refine wpQuiet_nil ?_
            intro w10 hb10
            have HB10 := Lib.hid (HB9.out.trans (hb10.mono HB9.out.size))
            have HY10 := Lib.hid (bkeep hb10 HY.out)
            clear hb10
            go_wp2_with fail
            go_roundg (PL.length - (k2 + 1))
            case measure => omega
            case rel => exact ⟨k2 + 1, by omega, by simp, by rw [E.out], HB10, HY10⟩
           ·have E : Hid ((PL.take (k2 + 1)).any (fun y => decide (y = xq)) = false) := Lib.hid (by rw [hss, decide_eq_false hpv]; rfl)
            have hpb : (yk == xq) = false := beq_eq_false_iff_ne.2 hpv
            clear hss hsb
            refine region_below (by kernel_rfl) (by kernel_rfl) ?_
            repeat (go_big_quiet_step (fail))
            refine wpQuiet_nil ?_
            intro w10 hb10
            have HB10 := Lib.hid (HB9.out.trans (hb10.mono HB9.out.size))
            have HY10 := Lib.hid (bkeep hb10 HY.out)
            clear hb10
            go_wp2_with fail
            go_roundg (PL.length - (k2 + 1))
            case measure => omega
            case rel => exact ⟨k2 + 1, by omega, by simp, by rw [E.out], HB10, HY10⟩
          ·have E : Hid ((PL.take (k2 + 1)).any (fun y => decide (y = xq)) = true) := Lib.hid (by rw [hss]; rfl)
           clear hss hsb
           refine region_below (by kernel_rfl) (by kernel_rfl) ?_
           repeat (go_big_quiet_step (fail))
           refine wpQuiet_nil ?_
           intro w10 hb10
           have HB10 := Lib.hid (HB9.out.trans (hb10.mono HB9.out.size))
           have HY10 := Lib.hid (bkeep hb10 HY.out)
           clear hb10
           go_wp2_with fail
           go_roundg (PL.length - (k2 + 1))
           case measure => omega
           case rel => exact ⟨k2 + 1, by omega, by simp, by rw [E.out], HB10, HY10⟩
         ·obtain rfl : k2 = PL.length := by omega
          have z4 : ¬ (PL.length : Int) < (PL.length : Int) := by omega
          rw [List.take_length, HIN.out]
          clear HIN
          go_wp2_with fail
          go_roundg (WK.length - (q + 1))
          case measure => omega
          case rel => exact ⟨q + 1, by omega, by simp, HB9⟩
       ·obtain rfl : q = WK.length := by omega
        have z3 : ¬ (WK.length : Int) < (WK.length : Int) := by omega
        have S10 := Lib.hid (S9.out.more HB9.out)
        have d3 := cell_of_block S10.out.bs 3 (.slice ut nT ur) rfl
        go_wp2_with (go_at_call 8; refine (HKN.out _).mono ?_; rintro e w11 ⟨rfl, hb⟩; have S11 := Lib.hid (S10.out.more hb); clear hb)
        go_ret
        exact ⟨rfl, S11.out.below⟩
end Go.Proofs.Ytlhpjfnfemebdaa
