/-
  spinnakerlaw30.CoverPaths: the walk. (Written by a generator.)
-/
import Derived.Test.YtlhpjfnfemebdaaEndP
import Derived.Test.YtlhpjfnfemebdaaKn30
import Derived.Test.YtlhpjfnfemebdaaJMade30
namespace Go.Proofs.Ytlhpjfnfemebdaa
open Go.RowKit
set_option maxRecDepth 100000 in
set_option maxHeartbeats 64000000 in
theorem coverPaths (v : Value) (u : PUn) (model room budget : Int) (w : World) (h : CaseV w v u model room budget) :
  Calls Try.prog 6 #[v] w fun e w' => e = .returned (.bool true) ∧ Below w.heap.size w w' := by
 obtain ⟨vi, vr, vc, rfl, hu⟩ := h.ex
 have HMA := Lib.hid (fun (w' : World) (hb : Below w.heap.size w w') => made_ok _ u model room budget w' (h.below hb))
 have HUV := Lib.hid (fun (w' : World) (hb : Below w.heap.size w w') => hu.below hb)
 have HKN := Lib.hid known30
 have S0 := Lib.hid (BxS.start w #[.int .i64 u.mod, vi, vr, vc, .int .i64 model, .int .i64 room, .int .i64 budget] 27)
 have c0 := cell_of_block S0.out.blk 0 (.int .i64 u.mod) rfl
 have c1 := cell_of_block S0.out.blk 1 vi rfl
 have c2 := cell_of_block S0.out.blk 2 vr rfl
 have c3 := cell_of_block S0.out.blk 3 vc rfl
 have c4 := cell_of_block S0.out.blk 4 (.int .i64 model) rfl
 have c5 := cell_of_block S0.out.blk 5 (.int .i64 room) rfl
 have c6 := cell_of_block S0.out.blk 6 (.int .i64 budget) rfl
 obtain ⟨vi', vr', vc', e, ⟨ai, ci, rfl, -⟩, ⟨ar, cr, rfl, -⟩, ⟨ac, cc, rfl, -⟩⟩ := id hu
 simp only [Value.agg.injEq, Array.mk.injEq, List.cons.injEq, and_true, true_and] at e
 obtain ⟨rfl, rfl, rfl⟩ := e
 clear h hu
 cases hR : madeS u model room budget with
 | none =>
  rw [hR] at HMA
  clear hR
  go_enter Try.func6, Try.ntmps6
  go_wp2_with (first
   | (go_at_call 8; refine (HKN.out _).mono ?_; rintro e w3 ⟨rfl, hb3⟩; have S3 := Lib.hid (S2.out.more hb3); clear hb3)
   | (go_at_call 7; refine (HMA.out _ S0.out.below).mono ?_; rintro e w2 ⟨rfl, hb2⟩; have S2 := Lib.hid ((S0.out.more hb2).more (balloc w2 (.cells #[.slice none 0 0, .slice none 0 0, .slice none 0 0, .slice none 0 0, .slice none 0 0, .slice none 0 0] 32))); clear hb2))
  go_ret
  exact ⟨rfl, S3.out.below⟩
 | some s =>
  obtain ⟨hG, hL⟩ := made_good hR
  have hR0 := hR
  rw [hR] at HMA
  clear hR
  have HG := Lib.hid hG
  have HL := Lib.hid hL
  have hmr := made_range hR0
  have HDA := Lib.hid (fun (w' : World) (uv sv : Value) (h1 : UnV w' uv u) (h2 : SpV w' sv s) => done30_ok uv sv u s model w' h1 h2 hG.right hG.ok hG.cf)
  have HWA := Lib.hid (fun (w' : World) (sv : Value) (h2 : SpV w' sv s) => widths_ok sv s _ w' h2 hG.dp hG.ok ⟨hG.pos, hG.le⟩ hG.edl)
  have HEN0 := Lib.hid (fun (w' : World) (uv cv : Value) (h1 : UnV w' uv u) (q t : Nat) (h2 : CfV w' cv (s.confs.getD q cf0)) (hq : q < s.confs.length) (ht : t < u.code.length) => enM_ok uv cv u (s.confs.getD q cf0) model room t w' h1 h2 hG.right hL (hG.cf q hq) (hG.thread hmr ht).2)
  have HDN0 : Hid ((doneL (allL (buildG (s.confs.length : Int) s.ed)) s.confs u).length = u.code.length ∧ ∀ t, t < u.code.length → ((doneL (allL (buildG (s.confs.length : Int) s.ed)) s.confs u).getD t []).length = (u.code.getD t []).length ∧ ∀ i, i < (u.code.getD t []).length → ((doneL (allL (buildG (s.confs.length : Int) s.ed)) s.confs u).getD t []).getD i false = somK s.confs (fun q => enA u (s.confs.getD q cf0) model room t) t i s.confs.length) := Lib.hid ⟨tab_len _ _, fun t ht => by
   unfold doneL
   rw [tab_get _ _ _ _ ht]
   refine ⟨doneRow_len _ _ _ _, fun i hi => ?_⟩
   unfold doneRow
   rw [tab_get _ _ _ _ hi, hG.path hmr ht]⟩
  have HTL : Hid (u.code.length ≤ 4 ∧ ∀ t, t < u.code.length → (u.code.getD t []).length ≤ 1000) := Lib.hid (by
   obtain ⟨-, -, -, ⟨-, hT4⟩, hcr, hrw⟩ := rightU_iff.1 hG.right
   exact ⟨by rw [hcr]; exact hT4, fun t ht => (rowU_iff.1 (hrw t (by rw [← hcr]; exact ht))).2.1.2⟩)
  have HPC0 : Hid (∀ q, q < s.confs.length → (s.confs.getD q cf0).pc.length = u.code.length) := Lib.hid (fun q hq => by
   obtain ⟨-, -, -, -, hcr, -⟩ := rightU_iff.1 hG.right
   rw [(hG.cf q hq).npc, hcr])
  have hpos := hG.pos
  have hle := hG.le
  have HW0 : Hid (0 < (widL s.confs.length (depF s.par)).length ∧ (widL s.confs.length (depF s.par)).getD 0 0 = 1) := Lib.hid (by
   unfold widL
   rw [tab_len]
   refine ⟨by omega, ?_⟩
   rw [tab_get _ _ _ _ (by omega)]
   have h1 : cntD (depF s.par) s.confs.length 0 = 1 := by
    have h2 : ∀ m, 0 < m → m ≤ s.confs.length → cntD (depF s.par) m 0 = 1 := by
     intro m
     induction m with
     | zero => intro h; omega
     | succ m ih =>
      intro _ hm
      rw [cntD_succ]
      by_cases h0 : m = 0
      ·subst h0; rfl
      ·have := depF_succ hG.par (j := m) (by omega) (by omega)
       rw [ih (by omega) (by omega), if_neg (by omega)]
    exact h2 _ hpos (Nat.le_refl _)
   rw [h1]; rfl)
  generalize widL s.confs.length (depF s.par) = WL at *
  generalize doneL (allL (buildG (s.confs.length : Int) s.ed)) s.confs u = DN at *
  obtain ⟨EN, hEN⟩ : ∃ EN : Nat → Nat → Bool, EN = fun t q => enA u (s.confs.getD q cf0) model room t := ⟨_, rfl⟩
  have HDN : Hid (DN.length = u.code.length ∧ ∀ t, t < u.code.length → (DN.getD t []).length = (u.code.getD t []).length ∧ ∀ i, i < (u.code.getD t []).length → (DN.getD t []).getD i false = somK s.confs (EN t) t i s.confs.length) := Lib.hid (by rw [hEN]; exact HDN0.out)
  have HEN : Hid (∀ (w' : World) (uv cv : Value), UnV w' uv u → ∀ (q t : Nat), CfV w' cv (s.confs.getD q cf0) → q < s.confs.length → t < u.code.length → Calls Try.prog 25 #[uv, cv, .int .i64 model, .int .i64 room, .int .i64 (t : Nat)] w' fun r w2 => r = .returned (.bool (EN t q)) ∧ Below w'.heap.size w' w2) := Lib.hid (by rw [hEN]; exact HEN0.out)
  clear HDN0 HEN0 hEN hmr
  obtain ⟨LN, hLN⟩ : ∃ LN : Nat → Nat, LN = fun t => (u.code.getD t []).length := ⟨_, rfl⟩
  have HDN2 : Hid (DN.length = u.code.length ∧ ∀ t, t < u.code.length → (DN.getD t []).length = LN t ∧ ∀ i, i < LN t → (DN.getD t []).getD i false = somK s.confs (EN t) t i s.confs.length) := Lib.hid (by rw [hLN]; exact HDN.out)
  have HTL2 : Hid (u.code.length ≤ 4 ∧ ∀ t, t < u.code.length → LN t ≤ 1000) := Lib.hid (by rw [hLN]; exact HTL.out)
  clear HDN HTL hLN
  obtain ⟨T, hT⟩ : ∃ T, T = u.code.length := ⟨_, rfl⟩
  rw [← hT] at HDN2 HTL2 HPC0 HEN
  have HTT := Lib.hid hT
  obtain ⟨N, hN⟩ : ∃ N, N = s.confs.length := ⟨_, rfl⟩
  rw [← hN] at HDN2 HPC0 HEN hpos hle
  have HN := Lib.hid hN
  clear hN hT
  clear hG hL hR0
  go_enter Try.func6, Try.ntmps6
  go_wp2_with (first
   | (go_at_call 9; refine (HDA.out _ _ _ (HUV.out _ S2.out.below) S2.out.sv).mono ?_; rintro e w3 ⟨dv, rfl, hd, hb3⟩; have S3 := Lib.hid (S2.out.more hb3); have CF3 := Lib.hid ((HCF.out.below (balloc w2 _)).below hb3); obtain ⟨da, dc, rfl, -⟩ := id hd; have D3 := Lib.hid hd; clear hd hb3 S2 HCF; clear c0 c1 c2 c3 c4 c5 c6 d0 d1 d2 d3 d4 d5; have hn := HNN.out; rw [← HN.out] at hn; subst hn; have hdl := HDN2.out.1; rw [hdl])
   | (go_at_call 7; refine (HMA.out _ S0.out.below).mono ?_; rintro e w2 ⟨⟨sv, rfl, hsv⟩, hb2⟩; obtain ⟨uc, n, uk, s1, nS, up, ua, nA, uq, ut, nT, ur, ux, nP, uy, uz, nB, ub, rfl, hn⟩ := hsv.six; have HNN := Lib.hid hn; obtain ⟨vC9, sa9, sc9, aa9, ac9, ta9, tc9, vP9, vA9, e9, hC9, -, -, -⟩ := id hsv.var; simp only [Value.agg.injEq, Array.mk.injEq, List.cons.injEq, and_true] at e9; have HCF := Lib.hid (show ConfsAt w2 (.slice uc n uk) s.confs by rw [e9.1]; exact hC9); clear hC9 e9; have X2 := S0.out.more hb2; have S2 := Lib.hid (LS.start X2.below X2.blk hsv); clear hsv hb2 hn X2; clear c0 c1 c2 c3 c4 c5 c6; have c0 := cell_of_block S2.out.bc 0 (.int .i64 u.mod) rfl; have c1 := cell_of_block S2.out.bc 1 (.slice ai u.init.length ci) rfl; have c2 := cell_of_block S2.out.bc 2 (.slice ar u.regs.length cr) rfl; have c3 := cell_of_block S2.out.bc 3 (.slice ac u.code.length cc) rfl; have c4 := cell_of_block S2.out.bc 4 (.int .i64 model) rfl; have c5 := cell_of_block S2.out.bc 5 (.int .i64 room) rfl; have c6 := cell_of_block S2.out.bc 6 (.int .i64 budget) rfl; have d0 := cell_of_block S2.out.bs 0 (.slice uc n uk) rfl; have d1 := cell_of_block S2.out.bs 1 (.slice s1 nS up) rfl; have d2 := cell_of_block S2.out.bs 2 (.slice ua nA uq) rfl; have d3 := cell_of_block S2.out.bs 3 (.slice ut nT ur) rfl; have d4 := cell_of_block S2.out.bs 4 (.slice ux nP uy) rfl; have d5 := cell_of_block S2.out.bs 5 (.slice uz nB ub) rfl))
  generalize w2.heap.size = b9 at *
  have hT4 := HTL2.out.1
  go_loopg [6] T (fun fu c wr => ∃ t : Nat, t + fu = T ∧ c = .int .i64 t ∧ Hid (Below w3.heap.size w3 wr))
  case atStart => exact ⟨0, by omega, rfl, Lib.hid (Below.refl _ _)⟩
  case round =>
   obtain ⟨t, ht, rfl, HB⟩ := hrel
   by_cases hlt : t < T
   ·have z1 : (t : Int) < (T : Int) := by omega
    obtain ⟨hrl, hrv⟩ := HDN2.out.2 t hlt
    have hln := HTL2.out.2 t hlt
    have HRV := Lib.hid hrv
    have HRL := Lib.hid hrl
    clear hrl hrv
    go_wp2_with fail
    go_loopg [7] (LN t) (fun fu c wr => ∃ i : Nat, i + fu = LN t ∧ c = .int .i64 i ∧ Hid (Below w3.heap.size w3 wr))
    case atStart => exact ⟨0, by omega, rfl, HB⟩
    case round =>
     clear HB
     obtain ⟨i, hi, rfl, HB⟩ := hrel
     obtain ⟨da', dc', e0, hD⟩ := D3.out.below HB.out
     simp only [Value.slice.injEq] at e0
     obtain ⟨rfl, -, -⟩ := e0
     obtain ⟨b1, o1, v1, rfl, y1, hB1⟩ := hD t (by rw [HDN2.out.1]; exact hlt)
     obtain ⟨p1, q1, rfl, hB1⟩ := hB1
     rw [HRL.out] at y1 hB1
     clear hD
     by_cases hil : i < LN t
     ·have z2 : (i : Int) < (LN t : Int) := by omega
      obtain ⟨b2, o2, rfl, y2⟩ := hB1 i hil
      rw [HRV.out i hil] at y2
      have HY1 := Lib.hid y1
      have HY2 := Lib.hid y2
      have S := Lib.hid (S3.out.more HB.out)
      have d0 := cell_of_block S.out.bs 0 (.slice uc n uk) rfl
      clear hB1 y2
      go_wp2_with fail
      clear y1
      go_loopg [8, 9] n (fun fu bv c wr => ∃ q : Nat, q + fu = n ∧ c = .int .i64 q ∧ bv = .bool (somK s.confs (EN t) t i q) ∧ Hid (Below w3.heap.size w3 wr) ∧ Hid (wr.cell? ⟨b1, o1 + t, none⟩ = some (.slice (some ⟨b2, o2, none⟩) (LN t) q1) ∧ wr.cell? ⟨b2, o2 + i, none⟩ = some (.bool (somK s.confs (EN t) t i n))))
      case atStart => exact ⟨0, by omega, rfl, rfl, HB, Lib.hid ⟨HY1.out, HY2.out⟩⟩
      case round =>
       clear HB HY1 HY2 S d0
       obtain ⟨q, hq, rfl, rfl, HB, HY⟩ := hrel
       have S := Lib.hid (S3.out.more HB.out)
       have d0 := cell_of_block S.out.bs 0 (.slice uc n uk) rfl
       by_cases hqn : q < n
       ·have z3 : (q : Int) < (n : Int) := by omega
        have hss := somK_succ s.confs (EN t) t i q
        obtain ⟨xa, xc, e0, hC⟩ := CF3.out
        simp only [Value.slice.injEq] at e0
        obtain ⟨rfl, -, -⟩ := e0
        obtain ⟨b4, o4, xp, xr, xm, xb, rfl, x0, x1, x2, x3, hcf⟩ := hC q (by rw [← HN.out]; exact hqn)
        have HEQ := Lib.hid (fun (j : Sub wr) => HEN.out j.1 _ _ (HUV.out _ (S.out.below.trans (j.2.mono S.out.below.size))) q t ((hcf.below HB.out).below j.2) hqn hlt)
        obtain ⟨vp', vr', vm', vb', e0, hpi, hri, hmi, hbi⟩ := hcf
        simp only [Value.agg.injEq, Array.mk.injEq, List.cons.injEq, and_true] at e0
        obtain ⟨rfl, rfl, rfl, rfl⟩ := e0
        obtain ⟨pa, pcap, rfl, hpc⟩ := hpi
        obtain ⟨ra, rcap, rfl, -⟩ := hri
        obtain ⟨ma, mcap, rfl, -⟩ := hmi
        obtain ⟨ba, bcap, rfl, -⟩ := hbi
        obtain ⟨b5, o5, rfl, xt⟩ := hpc t (by rw [HPC0.out q hqn]; exact hlt)
        have z4 : (t : Int) < ((s.confs.getD q cf0).pc.length : Int) := by rw [HPC0.out q hqn]; omega
        have x0 := bkeep HB.out x0
        have x1 := bkeep HB.out x1
        have x2 := bkeep HB.out x2
        have x3 := bkeep HB.out x3
        have xt := bkeep HB.out xt
        have f0 : ∀ j : Sub wr, j.1.cell? ⟨b4, o4 + q * 4, none⟩ = _ := fun j => j.cell x0
        have f1 : ∀ j : Sub wr, j.1.cell? ⟨b4, o4 + q * 4 + 1, none⟩ = _ := fun j => j.cell x1
        have f2 : ∀ j : Sub wr, j.1.cell? ⟨b4, o4 + q * 4 + 2, none⟩ = _ := fun j => j.cell x2
        have f3 : ∀ j : Sub wr, j.1.cell? ⟨b4, o4 + q * 4 + 3, none⟩ = _ := fun j => j.cell x3
        have f4 : ∀ j : Sub wr, j.1.cell? ⟨b5, o5 + t, none⟩ = _ := fun j => j.cell xt
        have f5 : ∀ j : Sub wr, j.1.cell? ⟨b9, 0, none⟩ = _ := fun j => j.cell d0
        have g0 : ∀ j : Sub wr, j.1.cell? ⟨w.heap.size, 0, none⟩ = some (.int .i64 u.mod) := fun j => j.cell (cell_of_block S.out.bc 0 (.int .i64 u.mod) rfl)
        have g1 : ∀ j : Sub wr, j.1.cell? ⟨w.heap.size, 1, none⟩ = some (.slice ai u.init.length ci) := fun j => j.cell (cell_of_block S.out.bc 1 (.slice ai u.init.length ci) rfl)
        have g2 : ∀ j : Sub wr, j.1.cell? ⟨w.heap.size, 2, none⟩ = some (.slice ar u.regs.length cr) := fun j => j.cell (cell_of_block S.out.bc 2 (.slice ar u.regs.length cr) rfl)
        have g3 : ∀ j : Sub wr, j.1.cell? ⟨w.heap.size, 3, none⟩ = some (.slice ac u.code.length cc) := fun j => j.cell (cell_of_block S.out.bc 3 (.slice ac u.code.length cc) rfl)
        have g4 : ∀ j : Sub wr, j.1.cell? ⟨w.heap.size, 4, none⟩ = some (.int .i64 model) := fun j => j.cell (cell_of_block S.out.bc 4 (.int .i64 model) rfl)
        have g5 : ∀ j : Sub wr, j.1.cell? ⟨w.heap.size, 5, none⟩ = some (.int .i64 room) := fun j => j.cell (cell_of_block S.out.bc 5 (.int .i64 room) rfl)
        clear hC hpc x0 x1 x2 x3 xt
        go_wp2_with fail
        clear d0
        generalize (s.confs.getD q cf0).pc.getD t 0 = pv at *
        generalize (s.confs.getD q cf0).pc.length = pl at *
        generalize (s.confs.getD q cf0).regs.length = rl at *
        generalize (s.confs.getD q cf0).mem.length = ml at *
        generalize (s.confs.getD q cf0).buf.length = bl at *
        generalize EN t q = en at *
        cases hsb : somK s.confs (EN t) t i q
        all_goals rw [hsb] at hss
        ·by_cases hpv : pv = (i : Int)
         ·have E : Hid (somK s.confs (EN t) t i (q + 1) = en) := Lib.hid (by rw [hss, hpv]; simp)
          subst hpv
          clear hss hsb
          refine region_below (by kernel_rfl) (by kernel_rfl) ?_
          repeat (go_big_quiet_step ((go_at_call 25; exact Calls.sub_of (HEQ.out _))))
          refine wpQuiet_nil ?_
          intro w6 hb6
          have HB6 := Lib.hid (HB.out.trans (hb6.mono HB.out.size))
          have HY6 : Hid (w6.cell? ⟨b1, o1 + t, none⟩ = some (.slice (some ⟨b2, o2, none⟩) (LN t) q1) ∧ w6.cell? ⟨b2, o2 + i, none⟩ = some (.bool (somK s.confs (EN t) t i n))) := Lib.hid ⟨bkeep hb6 HY.out.1, bkeep hb6 HY.out.2⟩
          clear hb6
          go_wp2_with fail
          go_roundg (n - (q + 1))
          case measure => omega
          case rel => exact ⟨q + 1, by omega, by simp, by rw [E.out], HB6, HY6⟩
         ·have E : Hid (somK s.confs (EN t) t i (q + 1) = false) := Lib.hid (by rw [hss, decide_eq_false hpv]; rfl)
          have hpb : (pv == (i : Int)) = false := beq_eq_false_iff_ne.2 hpv
          clear hss hsb
          refine region_below (by kernel_rfl) (by kernel_rfl) ?_
          repeat (go_big_quiet_step ((go_at_call 25; exact Calls.sub_of (HEQ.out _))))
          refine wpQuiet_nil ?_
          intro w6 hb6
          have HB6 := Lib.hid (HB.out.trans (hb6.mono HB.out.size))
          have HY6 : Hid (w6.cell? ⟨b1, o1 + t, none⟩ = some (.slice (some ⟨b2, o2, none⟩) (LN t) q1) ∧ w6.cell? ⟨b2, o2 + i, none⟩ = some (.bool (somK s.confs (EN t) t i n))) := Lib.hid ⟨bkeep hb6 HY.out.1, bkeep hb6 HY.out.2⟩
          clear hb6
          go_wp2_with fail
          go_roundg (n - (q + 1))
          case measure => omega
          case rel => exact ⟨q + 1, by omega, by simp, by rw [E.out], HB6, HY6⟩
        ·have E : Hid (somK s.confs (EN t) t i (q + 1) = true) := Lib.hid (by rw [hss]; rfl)
         clear hss hsb
         refine region_below (by kernel_rfl) (by kernel_rfl) ?_
         repeat (go_big_quiet_step ((go_at_call 25; exact Calls.sub_of (HEQ.out _))))
         refine wpQuiet_nil ?_
         intro w6 hb6
         have HB6 := Lib.hid (HB.out.trans (hb6.mono HB.out.size))
         have HY6 : Hid (w6.cell? ⟨b1, o1 + t, none⟩ = some (.slice (some ⟨b2, o2, none⟩) (LN t) q1) ∧ w6.cell? ⟨b2, o2 + i, none⟩ = some (.bool (somK s.confs (EN t) t i n))) := Lib.hid ⟨bkeep hb6 HY.out.1, bkeep hb6 HY.out.2⟩
         clear hb6
         go_wp2_with fail
         go_roundg (n - (q + 1))
         case measure => omega
         case rel => exact ⟨q + 1, by omega, by simp, by rw [E.out], HB6, HY6⟩
       ·obtain rfl : q = n := by omega
        have z3 : ¬ (q : Int) < (q : Int) := by omega
        have y1 := HY.out.1
        have y2 := HY.out.2
        clear HY
        generalize somK s.confs (EN t) t i q = sk at *
        go_wp2_with fail
        go_roundg (LN t - (i + 1))
        case measure => omega
        case rel => exact ⟨i + 1, by omega, by simp, HB⟩
     ·obtain rfl : i = LN t := by omega
      have z2 : ¬ (LN t : Int) < (LN t : Int) := by omega
      clear hB1
      go_wp2_with fail
      go_roundg (T - (t + 1))
      case measure => omega
      case rel => exact ⟨t + 1, by omega, by simp, HB⟩
   ·obtain rfl : t = T := by omega
    have z1 : ¬ (t : Int) < (t : Int) := by omega
    have S := Lib.hid (S3.out.more HB.out)
    have c0 := cell_of_block S.out.bc 0 (.int .i64 u.mod) rfl
    have c1 := cell_of_block S.out.bc 1 (.slice ai u.init.length ci) rfl
    have c2 := cell_of_block S.out.bc 2 (.slice ar u.regs.length cr) rfl
    have c3 := cell_of_block S.out.bc 3 (.slice ac u.code.length cc) rfl
    have c4 := cell_of_block S.out.bc 4 (.int .i64 model) rfl
    have c5 := cell_of_block S.out.bc 5 (.int .i64 room) rfl
    have c6 := cell_of_block S.out.bc 6 (.int .i64 budget) rfl
    have d0 := cell_of_block S.out.bs 0 (.slice uc n uk) rfl
    have d1 := cell_of_block S.out.bs 1 (.slice s1 nS up) rfl
    have d2 := cell_of_block S.out.bs 2 (.slice ua nA uq) rfl
    have d3 := cell_of_block S.out.bs 3 (.slice ut nT ur) rfl
    have d4 := cell_of_block S.out.bs 4 (.slice ux nP uy) rfl
    have d5 := cell_of_block S.out.bs 5 (.slice uz nB ub) rfl
    go_wp2_with (first
     | (go_at_call 8; refine (HKN.out _).mono ?_; rintro e w6 ⟨rfl, hb6⟩; have S6 := Lib.hid (S4.out.more hb6); clear hb6)
     | (go_at_call 15; refine (HWA.out _ _ S.out.sv).mono ?_; rintro e w4 ⟨wv, rfl, hw4, hb4⟩; have S4 := Lib.hid (S.out.more hb4); obtain ⟨wa, wc, rfl, hw⟩ := hw4; obtain ⟨b7, o7, rfl, y7⟩ := hw 0 HW0.out.1; rw [HW0.out.2, Nat.add_zero] at y7; have z7 : (0 : Int) < (WL.length : Int) := (by have := HW0.out.1; omega); clear hw hb4))
    go_ret
    exact ⟨rfl, S6.out.below⟩
end Go.Proofs.Ytlhpjfnfemebdaa
