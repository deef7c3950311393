/-
  spinnakerlaw30.CoverTells: the walk. (Written by a generator.)
-/
import Derived.Test.YtlhpjfnfemebdaaJCovH
import Derived.Test.YtlhpjfnfemebdaaJCovU
import Derived.Test.YtlhpjfnfemebdaaKn30
import Derived.Test.YtlhpjfnfemebdaaJMade30
namespace Go.Proofs.Ytlhpjfnfemebdaa
open Go.RowKit
set_option maxRecDepth 100000 in
set_option maxHeartbeats 64000000 in
theorem coverTells (v : Value) (u : PUn) (model room budget : Int) (agents : Int) (w : World) (h : CaseV w v u model room budget) :
  Calls Try.prog 3 #[v, .int .i64 agents] w fun e w' => e = .returned (.bool true) ∧ Below w.heap.size w w' := by
 obtain ⟨vi, vr, vc, rfl, hu⟩ := h.ex
 have HMA := Lib.hid (fun (w' : World) (hb : Below w.heap.size w w') => made_ok _ u model room budget w' (h.below hb))
 have HUV := Lib.hid (fun (w' : World) (hb : Below w.heap.size w w') => hu.below hb)
 have HKN := Lib.hid known30
 have S0 := Lib.hid (BxS.start w #[.int .i64 u.mod, vi, vr, vc, .int .i64 model, .int .i64 room, .int .i64 budget] 27)
 have c0 := cell_of_block S0.out.blk 0 (.int .i64 u.mod) rfl
 have c1 := cell_of_block S0.out.blk 1 vi rfl
 have c2 := cell_of_block S0.out.blk 2 vr rfl
 have c3 := cell_of_block S0.out.blk 3 vc rfl
 have c4 := cell_of_block S0.out.blk 4 (.int .i64 model) rfl
 have c5 := cell_of_block S0.out.blk 5 (.int .i64 room) rfl
 have c6 := cell_of_block S0.out.blk 6 (.int .i64 budget) rfl
 obtain ⟨vi', vr', vc', e, ⟨ai, ci, rfl, -⟩, ⟨ar, cr, rfl, -⟩, ⟨ac, cc, rfl, -⟩⟩ := id hu
 simp only [Value.agg.injEq, Array.mk.injEq, List.cons.injEq, and_true, true_and] at e
 obtain ⟨rfl, rfl, rfl⟩ := e
 clear h hu
 cases hR : madeS u model room budget with
 | none =>
  rw [hR] at HMA
  clear hR
  go_enter Try.func3, Try.ntmps3
  go_wp2_with (first
   | (go_at_call 8; refine (HKN.out _).mono ?_; rintro e w3 ⟨rfl, hb3⟩; have S3 := Lib.hid (S2.out.more hb3); clear hb3)
   | (go_at_call 7; refine (HMA.out _ S0.out.below).mono ?_; rintro e w2 ⟨rfl, hb2⟩; have S2 := Lib.hid ((S0.out.more hb2).more (balloc w2 (.cells #[.slice none 0 0, .slice none 0 0, .slice none 0 0, .slice none 0 0, .slice none 0 0, .slice none 0 0] 32))); clear hb2))
  go_ret
  exact ⟨rfl, S3.out.below⟩
 | some s =>
  obtain ⟨hG, hL⟩ := made_good hR
  rw [hR] at HMA
  clear hR
  have HG := Lib.hid hG
  have HL := Lib.hid hL
  have HD1 := Lib.hid (fun (w' : World) (uv sv : Value) (h1 : UnV w' uv u) (h2 : SpV w' sv s) => done30_ok uv sv u s model w' h1 h2 hG.right hG.ok hG.cf)
  have HD2 := Lib.hid (fun (w' : World) (uv sv : Value) (h1 : UnV w' uv u) (h2 : SpV w' sv s) => rdone_ok uv sv u s model w' h1 h2 hG.right hG.ok hG.cf)
  have HDA := Lib.hid (fun (w' : World) (sv : Value) (h2 : SpV w' sv s) => depths_ok sv s _ w' h2 hG.dp hG.ok ⟨hG.pos, hG.le⟩ hG.edl)
  have HDB := Lib.hid (fun (w' : World) (sv : Value) (h2 : SpV w' sv s) => rdepths_ok sv s _ w' h2 hG.dp hG.ok ⟨hG.pos, hG.le⟩ hG.edl)
  have HWA := Lib.hid (fun (w' : World) (sv : Value) (h2 : SpV w' sv s) => widths_ok sv s _ w' h2 hG.dp hG.ok ⟨hG.pos, hG.le⟩ hG.edl)
  have HWB := Lib.hid (fun (w' : World) (sv : Value) (h2 : SpV w' sv s) => rwidths_ok sv s _ w' h2 hG.dp hG.ok ⟨hG.pos, hG.le⟩ hG.edl)
  have HAA := Lib.hid (fun (w' : World) (sv : Value) (h2 : SpV w' sv s) => acting_any sv s agents w' h2 hG.ok hG.ag100)
  have HAB := Lib.hid (fun (w' : World) (sv : Value) (h2 : SpV w' sv s) => racting_any sv s agents w' h2 hG.ok)
  have HSA := Lib.hid (fun (w' : World) (sv : Value) (h2 : SpV w' sv s) => spins_ok sv s w' h2 hG.ok hG.le)
  have HSB := Lib.hid (fun (w' : World) (sv : Value) (h2 : SpV w' sv s) => rspins_ok sv s w' h2 hG.ok hG.le hG.edl)
  have L1 : Hid ((depL s.confs.length (depF s.par)).length ≤ 1000000) := Lib.hid (by unfold depL; rw [tab_len]; have := hG.le; omega)
  have L2 : Hid ((widL s.confs.length (depF s.par)).length ≤ 1000000) := Lib.hid (by unfold widL; rw [tab_len]; have := hG.le; have := hG.dp.le (s.confs.length - 1) (by have := hG.pos; omega); omega)
  have L3 : Hid ((actI (allL (buildG (s.confs.length : Int) s.ed)) agents).length ≤ 1000000) := Lib.hid (by unfold actI actL; split; simp; rw [tab_len]; omega)
  have L4 : Hid ((spinL (buildG (s.confs.length : Int) s.ed) s.confs.length).length ≤ 1000000) := Lib.hid (by have := spinK_len (buildG (s.confs.length : Int) s.ed) s.confs.length; have := hG.le; show (spinK _ _).length ≤ _; omega)
  have LD : Hid ((doneL (allL (buildG (s.confs.length : Int) s.ed)) s.confs u).length ≤ 100 ∧ ∀ r ∈ doneL (allL (buildG (s.confs.length : Int) s.ed)) s.confs u, r.length ≤ 1000000) := Lib.hid (by
   obtain ⟨-, -, -, ⟨-, hT4⟩, hcr, hrw⟩ := rightU_iff.1 hG.right
   refine ⟨by unfold doneL; rw [tab_len, hcr]; omega, fun r hr => ?_⟩
   obtain ⟨t, ht, rfl⟩ := List.mem_map.1 hr
   have ht := List.mem_range.1 ht
   have := (rowU_iff.1 (hrw t (by rw [← hcr]; exact ht))).2.1.2
   rw [doneRow_len]; omega)
  generalize depL s.confs.length (depF s.par) = DL at *
  generalize widL s.confs.length (depF s.par) = WL at *
  generalize actI (allL (buildG (s.confs.length : Int) s.ed)) agents = AL at *
  generalize spinL (buildG (s.confs.length : Int) s.ed) s.confs.length = PL at *
  generalize doneL (allL (buildG (s.confs.length : Int) s.ed)) s.confs u = DN at *
  clear hG hL
  go_enter Try.func3, Try.ntmps3
  go_wp2_with (first
   | (go_at_call 10; refine (HD2.out _ _ _ (HUV.out _ S3.out.below) S3.out.sv).mono ?_; rintro e w4 ⟨dv, rfl, hd, hb4⟩; have S4 := Lib.hid (S3.out.more hb4); have D1 := Lib.hid (D0.out.below hb4); obtain ⟨ea, ec, rfl, -⟩ := id hd; have D2 := Lib.hid hd; clear hd hb4 S3 D0; clear c0 c1 c2 c3 c4 c5 c6 d0 d1 d2 d3 d4 d5)
   | (go_at_call 9; refine (HD1.out _ _ _ (HUV.out _ S2.out.below) S2.out.sv).mono ?_; rintro e w3 ⟨dv, rfl, hd, hb3⟩; have S3 := Lib.hid (S2.out.more hb3); obtain ⟨da, dc, rfl, -⟩ := id hd; have D0 := Lib.hid hd; clear hd hb3 S2; clear c0 c1 c2 c3 c4 c5 c6 d0 d1 d2 d3 d4 d5; have c0 := cell_of_block S3.out.bc 0 (.int .i64 u.mod) rfl; have c1 := cell_of_block S3.out.bc 1 (.slice ai u.init.length ci) rfl; have c2 := cell_of_block S3.out.bc 2 (.slice ar u.regs.length cr) rfl; have c3 := cell_of_block S3.out.bc 3 (.slice ac u.code.length cc) rfl; have c4 := cell_of_block S3.out.bc 4 (.int .i64 model) rfl; have c5 := cell_of_block S3.out.bc 5 (.int .i64 room) rfl; have c6 := cell_of_block S3.out.bc 6 (.int .i64 budget) rfl; have d0 := cell_of_block S3.out.bs 0 (.slice c n k) rfl; have d1 := cell_of_block S3.out.bs 1 (.slice s1 nS p) rfl; have d2 := cell_of_block S3.out.bs 2 (.slice a nA q) rfl; have d3 := cell_of_block S3.out.bs 3 (.slice t nT r) rfl; have d4 := cell_of_block S3.out.bs 4 (.slice x nP y) rfl; have d5 := cell_of_block S3.out.bs 5 (.slice z nB b) rfl)
   | (go_at_call 7; refine (HMA.out _ S0.out.below).mono ?_; rintro e w2 ⟨⟨sv, rfl, hsv⟩, hb2⟩; obtain ⟨c, n, k, s1, nS, p, a, nA, q, t, nT, r, x, nP, y, z, nB, b, rfl, hn⟩ := hsv.six; have HNN := Lib.hid hn; have X2 := S0.out.more hb2; have S2 := Lib.hid (LS.start X2.below X2.blk hsv); clear hsv hb2 hn X2; clear c0 c1 c2 c3 c4 c5 c6; have c0 := cell_of_block S2.out.bc 0 (.int .i64 u.mod) rfl; have c1 := cell_of_block S2.out.bc 1 (.slice ai u.init.length ci) rfl; have c2 := cell_of_block S2.out.bc 2 (.slice ar u.regs.length cr) rfl; have c3 := cell_of_block S2.out.bc 3 (.slice ac u.code.length cc) rfl; have c4 := cell_of_block S2.out.bc 4 (.int .i64 model) rfl; have c5 := cell_of_block S2.out.bc 5 (.int .i64 room) rfl; have c6 := cell_of_block S2.out.bc 6 (.int .i64 budget) rfl; have d0 := cell_of_block S2.out.bs 0 (.slice c n k) rfl; have d1 := cell_of_block S2.out.bs 1 (.slice s1 nS p) rfl; have d2 := cell_of_block S2.out.bs 2 (.slice a nA q) rfl; have d3 := cell_of_block S2.out.bs 3 (.slice t nT r) rfl; have d4 := cell_of_block S2.out.bs 4 (.slice x nP y) rfl; have d5 := cell_of_block S2.out.bs 5 (.slice z nB b) rfl))
  go_loopg [9] DN.length (fun fu c wr => ∃ k : Nat, k + fu = DN.length ∧ c = .int .i64 k ∧ Hid (Below w4.heap.size w4 wr))
  case atStart => exact ⟨0, by omega, rfl, Lib.hid (Below.refl _ _)⟩
  case round =>
   obtain ⟨j, hj, rfl, HB⟩ := hrel
   have hdl := LD.out.1
   by_cases hlt : j < DN.length
   ·have z1 : (j : Int) < (DN.length : Int) := by omega
    obtain ⟨da', dc', e0, hD1⟩ := D1.out.below HB.out
    cases e0
    obtain ⟨b1, o1, v1, rfl, y1, hB1⟩ := hD1 j hlt
    obtain ⟨ea', ec', e0, hD2⟩ := D2.out.below HB.out
    cases e0
    obtain ⟨b2, o2, v2, rfl, y2, hB2⟩ := hD2 j hlt
    have hrl := LD.out.2 (DN.getD j []) (by simp [List.getD, hlt])
    have HBS := Lib.hid (fun (i : Sub wr) => bools_same _ _ (DN.getD j []) i.1 (hB1.below i.2) (hB2.below i.2) hrl)
    obtain ⟨p1, q1, rfl, -⟩ := hB1
    obtain ⟨p2, q2, rfl, -⟩ := hB2
    have f1 : ∀ i : Sub wr, i.1.cell? ⟨b1, o1 + j, none⟩ = some (.slice p1 (DN.getD j []).length q1) := fun i => i.cell y1
    have f2 : ∀ i : Sub wr, i.1.cell? ⟨b2, o2 + j, none⟩ = some (.slice p2 (DN.getD j []).length q2) := fun i => i.cell y2
    clear hD1 hD2 hrl
    generalize DN.getD j [] = row at *
    go_wp2_with fail
    refine region_below (by kernel_rfl) (by kernel_rfl) ?_
    repeat (go_big_quiet_step ((go_at_call 11; exact Calls.sub_of (HBS.out _))))
    refine wpQuiet_nil ?_
    intro w6 hb6
    have HB6 := Lib.hid (HB.out.trans (hb6.mono HB.out.size))
    clear hb6
    go_wp2_with fail
    go_roundg (DN.length - (j + 1))
    case measure => omega
    case rel => exact ⟨j + 1, by omega, by simp, HB6⟩
   ·obtain rfl : j = DN.length := by omega
    have z1 : ¬ (DN.length : Int) < (DN.length : Int) := by omega
    have S5 := Lib.hid (S4.out.more HB.out)
    have c0 := cell_of_block S5.out.bc 0 (.int .i64 u.mod) rfl
    have c1 := cell_of_block S5.out.bc 1 (.slice ai u.init.length ci) rfl
    have c2 := cell_of_block S5.out.bc 2 (.slice ar u.regs.length cr) rfl
    have c3 := cell_of_block S5.out.bc 3 (.slice ac u.code.length cc) rfl
    have c4 := cell_of_block S5.out.bc 4 (.int .i64 model) rfl
    have c5 := cell_of_block S5.out.bc 5 (.int .i64 room) rfl
    have c6 := cell_of_block S5.out.bc 6 (.int .i64 budget) rfl
    have d0 := cell_of_block S5.out.bs 0 (.slice c n k) rfl
    have d1 := cell_of_block S5.out.bs 1 (.slice s1 nS p) rfl
    have d2 := cell_of_block S5.out.bs 2 (.slice a nA q) rfl
    have d3 := cell_of_block S5.out.bs 3 (.slice t nT r) rfl
    have d4 := cell_of_block S5.out.bs 4 (.slice x nP y) rfl
    have d5 := cell_of_block S5.out.bs 5 (.slice z nB b) rfl
    clear S4 D1 D2 HB
    go_wp2_with fail
    refine region_rel (fun q => match q with | 4 => u4 | _ => undef)
     (fun f => { tmps := #[.agg #[.int .i64 u.mod, .slice ai u.init.length ci, .slice ar u.regs.length cr, .slice ac u.code.length cc, .int .i64 model, .int .i64 room, .int .i64 budget], .int .i64 agents, .pointer (some ⟨w.heap.size, 0, none⟩), undef, f 4, .pointer (some ⟨w2.heap.size, 0, none⟩), .bool true, .slice da DN.length dc, .slice ea DN.length ec, .int .i64 (DN.length : Nat), .tuple #[.agg #[.slice c n k, .slice s1 nS p, .slice a nA q, .slice t nT r, .slice x nP y, .slice z nB b], .bool true], .agg #[.int .i64 u.mod, .slice ai u.init.length ci, .slice ar u.regs.length cr, .slice ac u.code.length cc, .int .i64 model, .int .i64 room, .int .i64 budget], .tuple #[.agg #[.slice c n k, .slice s1 nS p, .slice a nA q, .slice t nT r, .slice x nP y, .slice z nB b], .bool true], .agg #[.slice c n k, .slice s1 nS p, .slice a nA q, .slice t nT r, .slice x nP y, .slice z nB b], .bool true, .bool true, .bool false, undef, .pointer (some ⟨w.heap.size, 0, none⟩), .agg #[.int .i64 u.mod, .slice ai u.init.length ci, .slice ar u.regs.length cr, .slice ac u.code.length cc], .agg #[.slice c n k, .slice s1 nS p, .slice a nA q, .slice t nT r, .slice x nP y, .slice z nB b], .pointer (some ⟨w.heap.size, 4, none⟩), .int .i64 model, .slice da DN.length dc, .pointer (some ⟨w.heap.size, 0, none⟩), .agg #[.int .i64 u.mod, .slice ai u.init.length ci, .slice ar u.regs.length cr, .slice ac u.code.length cc], .agg #[.slice c n k, .slice s1 nS p, .slice a nA q, .slice t nT r, .slice x nP y, .slice z nB b], .pointer (some ⟨w.heap.size, 4, none⟩), .int .i64 model, .slice ea DN.length ec, .slice da DN.length dc, .int .i64 (DN.length : Nat), .slice ea DN.length ec, .int .i64 (DN.length : Nat), .bool false, .int .i64 (DN.length : Nat), .slice da DN.length dc, .int .i64 (DN.length : Nat), .bool false, u39, u40, u41, u42, u43, u44, u45, u46, u47, u48, u49, u50, f 51, f 52, f 53, f 54, f 55, f 56, f 57, f 58, f 59, f 60, f 61, f 62, f 63, f 64, f 65, f 66, f 67, f 68, f 69, f 70, f 71, f 72, f 73, f 74, f 75, f 76, f 77, f 78, f 79, f 80, f 81], defers := [] }) (fun j => if j = 31 then 4 else j + 51)
     (relL [.eq (.agg #[.slice c n k, .slice s1 nS p, .slice a nA q, .slice t nT r, .slice x nP y, .slice z nB b]), .ints DL, .eq (.agg #[.slice c n k, .slice s1 nS p, .slice a nA q, .slice t nT r, .slice x nP y, .slice z nB b]), .ints DL, .eq (.bool true), .eq (.bool true), .eq (.agg #[.slice c n k, .slice s1 nS p, .slice a nA q, .slice t nT r, .slice x nP y, .slice z nB b]), .ints WL, .eq (.agg #[.slice c n k, .slice s1 nS p, .slice a nA q, .slice t nT r, .slice x nP y, .slice z nB b]), .ints WL, .eq (.bool true), .eq (.bool true), .eq (.bool true), .eq (.agg #[.slice c n k, .slice s1 nS p, .slice a nA q, .slice t nT r, .slice x nP y, .slice z nB b]), .eq (.int .i64 agents), .ints AL, .eq (.agg #[.slice c n k, .slice s1 nS p, .slice a nA q, .slice t nT r, .slice x nP y, .slice z nB b]), .eq (.int .i64 agents), .ints AL, .eq (.bool true), .eq (.bool true), .eq (.bool true), .eq (.agg #[.slice c n k, .slice s1 nS p, .slice a nA q, .slice t nT r, .slice x nP y, .slice z nB b]), .ints PL, .eq (.agg #[.slice c n k, .slice s1 nS p, .slice a nA q, .slice t nT r, .slice x nP y, .slice z nB b]), .ints PL, .eq (.bool true), .eq (.bool true), .eq (.bool true), .eq (.bool true), .eq (.bool true), .eq (.bool true)])
     rfl (by kernel_rfl) (fun i u w w' hb h => RK.mono _ hb h) (by kernel_rfl) (by kernel_rfl) ?_ ?_ ?_
    ·intro j hj f v
     rcases j with _ | _ | _ | _ | _ | _ | _ | _ | _ | _ | _ | _ | _ | _ | _ | _ | _ | _ | _ | _ | _ | _ | _ | _ | _ | _ | _ | _ | _ | _ | _ | _ | j
     all_goals first | rfl | (simp at hj; omega)
    ·refine ⟨?_, ?_, ?_, ?_, ?_, ?_, ?_, ?_, ?_, ?_, ?_, ?_, ?_, ?_, ?_, ?_, ?_, ?_, ?_, ?_, ?_, ?_, ?_, ?_, ?_, ?_, ?_, ?_, ?_, ?_, ?_, ?_, trivial⟩
     ·intro f w' hb hd K hK
      have e0 := bkeep hb d0
      have e1 := bkeep hb d1
      have e2 := bkeep hb d2
      have e3 := bkeep hb d3
      have e4 := bkeep hb d4
      have e5 := bkeep hb d5
      dsimp only
      go_simp
      exact hK (.agg #[.slice c n k, .slice s1 nS p, .slice a nA q, .slice t nT r, .slice x nP y, .slice z nB b]) w' (Below.refl _ _) rfl
     ·intro f w' hb hd K hK
      have h0 : f 51 = (.agg #[.slice c n k, .slice s1 nS p, .slice a nA q, .slice t nT r, .slice x nP y, .slice z nB b]) := hd 0 (by kernel_rfl)
      have HO := Lib.hid (HDA.out w' _ (S5.out.more ((Below.refl _ wr).drew.trans hb)).sv)
      dsimp only
      go_simp
      go_wp2_with (go_at_call 13; refine HO.out.mono ?_; rintro e w2 ⟨lv, rfl, hE, hb2⟩)
      have q := hK lv w2 hb2 hE
      simp only [h0] at q
      exact q
     ·intro f w' hb hd K hK
      have e0 := bkeep hb d0
      have e1 := bkeep hb d1
      have e2 := bkeep hb d2
      have e3 := bkeep hb d3
      have e4 := bkeep hb d4
      have e5 := bkeep hb d5
      dsimp only
      go_simp
      exact hK (.agg #[.slice c n k, .slice s1 nS p, .slice a nA q, .slice t nT r, .slice x nP y, .slice z nB b]) w' (Below.refl _ _) rfl
     ·intro f w' hb hd K hK
      have h0 : f 53 = (.agg #[.slice c n k, .slice s1 nS p, .slice a nA q, .slice t nT r, .slice x nP y, .slice z nB b]) := hd 2 (by kernel_rfl)
      have HO := Lib.hid (HDB.out w' _ (S5.out.more ((Below.refl _ wr).drew.trans hb)).sv)
      dsimp only
      go_simp
      go_wp2_with (go_at_call 14; refine HO.out.mono ?_; rintro e w2 ⟨lv, rfl, hE, hb2⟩)
      have q := hK lv w2 hb2 hE
      simp only [h0] at q
      exact q
     ·intro f w' hb hd K hK
      have r0 : IntsAt w' (f 52) DL := hd 1 (by kernel_rfl)
      have r1 : IntsAt w' (f 54) DL := hd 3 (by kernel_rfl)
      have HO := Lib.hid (ints_same _ _ _ w' r0 r1 L1.out)
      clear r0 r1
      dsimp only
      go_simp
      go_wp2_with (go_at_call 12; refine HO.out.mono ?_; rintro e w2 ⟨rfl, hb2⟩)
      exact hK (.bool true) w2 hb2 rfl
     ·intro f w' hb hd K hK
      have h0 : f 55 = (.bool true) := hd 4 (by kernel_rfl)
      dsimp only
      go_simp
      have q := hK (.bool true) w' (Below.refl _ _) rfl
      simp only [h0] at q
      exact q
     ·intro f w' hb hd K hK
      have hg : f 56 = .bool true := hd 5 (by kernel_rfl)
      have e0 := bkeep hb d0
      have e1 := bkeep hb d1
      have e2 := bkeep hb d2
      have e3 := bkeep hb d3
      have e4 := bkeep hb d4
      have e5 := bkeep hb d5
      dsimp only
      go_simp
      have q := hK (.agg #[.slice c n k, .slice s1 nS p, .slice a nA q, .slice t nT r, .slice x nP y, .slice z nB b]) w' (Below.refl _ _) rfl
      simp only [hg] at q
      exact q
     ·intro f w' hb hd K hK
      have hg : f 56 = .bool true := hd 5 (by kernel_rfl)
      have h0 : f 57 = (.agg #[.slice c n k, .slice s1 nS p, .slice a nA q, .slice t nT r, .slice x nP y, .slice z nB b]) := hd 6 (by kernel_rfl)
      have HO := Lib.hid (HWA.out w' _ (S5.out.more ((Below.refl _ wr).drew.trans hb)).sv)
      dsimp only
      go_simp
      go_wp2_with (go_at_call 15; refine HO.out.mono ?_; rintro e w2 ⟨lv, rfl, hE, hb2⟩)
      have q := hK lv w2 hb2 hE
      simp only [hg, h0] at q
      exact q
     ·intro f w' hb hd K hK
      have hg : f 56 = .bool true := hd 5 (by kernel_rfl)
      have e0 := bkeep hb d0
      have e1 := bkeep hb d1
      have e2 := bkeep hb d2
      have e3 := bkeep hb d3
      have e4 := bkeep hb d4
      have e5 := bkeep hb d5
      dsimp only
      go_simp
      have q := hK (.agg #[.slice c n k, .slice s1 nS p, .slice a nA q, .slice t nT r, .slice x nP y, .slice z nB b]) w' (Below.refl _ _) rfl
      simp only [hg] at q
      exact q
     ·intro f w' hb hd K hK
      have hg : f 56 = .bool true := hd 5 (by kernel_rfl)
      have h0 : f 59 = (.agg #[.slice c n k, .slice s1 nS p, .slice a nA q, .slice t nT r, .slice x nP y, .slice z nB b]) := hd 8 (by kernel_rfl)
      have HO := Lib.hid (HWB.out w' _ (S5.out.more ((Below.refl _ wr).drew.trans hb)).sv)
      dsimp only
      go_simp
      go_wp2_with (go_at_call 16; refine HO.out.mono ?_; rintro e w2 ⟨lv, rfl, hE, hb2⟩)
      have q := hK lv w2 hb2 hE
      simp only [hg, h0] at q
      exact q
     ·intro f w' hb hd K hK
      have hg : f 56 = .bool true := hd 5 (by kernel_rfl)
      have r0 : IntsAt w' (f 58) WL := hd 7 (by kernel_rfl)
      have r1 : IntsAt w' (f 60) WL := hd 9 (by kernel_rfl)
      have HO := Lib.hid (ints_same _ _ _ w' r0 r1 L2.out)
      clear r0 r1
      dsimp only
      go_simp
      go_wp2_with (go_at_call 12; refine HO.out.mono ?_; rintro e w2 ⟨rfl, hb2⟩)
      have q := hK (.bool true) w2 hb2 rfl
      simp only [hg] at q
      exact q
     ·intro f w' hb hd K hK
      have h0 : f 56 = (.bool true) := hd 5 (by kernel_rfl)
      have h1 : f 61 = (.bool true) := hd 10 (by kernel_rfl)
      dsimp only
      go_simp
      have q := hK (.bool true) w' (Below.refl _ _) rfl
      simp only [h0, h1] at q
      exact q
     ·intro f w' hb hd K hK
      have h0 : f 62 = (.bool true) := hd 11 (by kernel_rfl)
      dsimp only
      go_simp
      have q := hK (.bool true) w' (Below.refl _ _) rfl
      simp only [h0] at q
      exact q
     ·intro f w' hb hd K hK
      have hg : f 63 = .bool true := hd 12 (by kernel_rfl)
      have e0 := bkeep hb d0
      have e1 := bkeep hb d1
      have e2 := bkeep hb d2
      have e3 := bkeep hb d3
      have e4 := bkeep hb d4
      have e5 := bkeep hb d5
      dsimp only
      go_simp
      have q := hK (.agg #[.slice c n k, .slice s1 nS p, .slice a nA q, .slice t nT r, .slice x nP y, .slice z nB b]) w' (Below.refl _ _) rfl
      simp only [hg] at q
      exact q
     ·intro f w' hb hd K hK
      have hg : f 63 = .bool true := hd 12 (by kernel_rfl)
      dsimp only
      go_simp
      have q := hK (.int .i64 agents) w' (Below.refl _ _) rfl
      simp only [hg] at q
      exact q
     ·intro f w' hb hd K hK
      have hg : f 63 = .bool true := hd 12 (by kernel_rfl)
      have h0 : f 64 = (.agg #[.slice c n k, .slice s1 nS p, .slice a nA q, .slice t nT r, .slice x nP y, .slice z nB b]) := hd 13 (by kernel_rfl)
      have h1 : f 65 = (.int .i64 agents) := hd 14 (by kernel_rfl)
      have HO := Lib.hid (HAA.out w' _ (S5.out.more ((Below.refl _ wr).drew.trans hb)).sv)
      dsimp only
      go_simp
      go_wp2_with (go_at_call 17; refine HO.out.mono ?_; rintro e w2 ⟨lv, rfl, hE, hb2⟩)
      have q := hK lv w2 hb2 hE
      simp only [hg, h0, h1] at q
      exact q
     ·intro f w' hb hd K hK
      have hg : f 63 = .bool true := hd 12 (by kernel_rfl)
      have e0 := bkeep hb d0
      have e1 := bkeep hb d1
      have e2 := bkeep hb d2
      have e3 := bkeep hb d3
      have e4 := bkeep hb d4
      have e5 := bkeep hb d5
      dsimp only
      go_simp
      have q := hK (.agg #[.slice c n k, .slice s1 nS p, .slice a nA q, .slice t nT r, .slice x nP y, .slice z nB b]) w' (Below.refl _ _) rfl
      simp only [hg] at q
      exact q
     ·intro f w' hb hd K hK
      have hg : f 63 = .bool true := hd 12 (by kernel_rfl)
      dsimp only
      go_simp
      have q := hK (.int .i64 agents) w' (Below.refl _ _) rfl
      simp only [hg] at q
      exact q
     ·intro f w' hb hd K hK
      have hg : f 63 = .bool true := hd 12 (by kernel_rfl)
      have h0 : f 67 = (.agg #[.slice c n k, .slice s1 nS p, .slice a nA q, .slice t nT r, .slice x nP y, .slice z nB b]) := hd 16 (by kernel_rfl)
      have h1 : f 68 = (.int .i64 agents) := hd 17 (by kernel_rfl)
      have HO := Lib.hid (HAB.out w' _ (S5.out.more ((Below.refl _ wr).drew.trans hb)).sv)
      dsimp only
      go_simp
      go_wp2_with (go_at_call 18; refine HO.out.mono ?_; rintro e w2 ⟨lv, rfl, hE, hb2⟩)
      have q := hK lv w2 hb2 hE
      simp only [hg, h0, h1] at q
      exact q
     ·intro f w' hb hd K hK
      have hg : f 63 = .bool true := hd 12 (by kernel_rfl)
      have r0 : IntsAt w' (f 66) AL := hd 15 (by kernel_rfl)
      have r1 : IntsAt w' (f 69) AL := hd 18 (by kernel_rfl)
      have HO := Lib.hid (ints_same _ _ _ w' r0 r1 L3.out)
      clear r0 r1
      dsimp only
      go_simp
      go_wp2_with (go_at_call 12; refine HO.out.mono ?_; rintro e w2 ⟨rfl, hb2⟩)
      have q := hK (.bool true) w2 hb2 rfl
      simp only [hg] at q
      exact q
     ·intro f w' hb hd K hK
      have h0 : f 63 = (.bool true) := hd 12 (by kernel_rfl)
      have h1 : f 70 = (.bool true) := hd 19 (by kernel_rfl)
      dsimp only
      go_simp
      have q := hK (.bool true) w' (Below.refl _ _) rfl
      simp only [h0, h1] at q
      exact q
     ·intro f w' hb hd K hK
      have h0 : f 71 = (.bool true) := hd 20 (by kernel_rfl)
      dsimp only
      go_simp
      have q := hK (.bool true) w' (Below.refl _ _) rfl
      simp only [h0] at q
      exact q
     ·intro f w' hb hd K hK
      have hg : f 72 = .bool true := hd 21 (by kernel_rfl)
      have e0 := bkeep hb d0
      have e1 := bkeep hb d1
      have e2 := bkeep hb d2
      have e3 := bkeep hb d3
      have e4 := bkeep hb d4
      have e5 := bkeep hb d5
      dsimp only
      go_simp
      have q := hK (.agg #[.slice c n k, .slice s1 nS p, .slice a nA q, .slice t nT r, .slice x nP y, .slice z nB b]) w' (Below.refl _ _) rfl
      simp only [hg] at q
      exact q
     ·intro f w' hb hd K hK
      have hg : f 72 = .bool true := hd 21 (by kernel_rfl)
      have h0 : f 73 = (.agg #[.slice c n k, .slice s1 nS p, .slice a nA q, .slice t nT r, .slice x nP y, .slice z nB b]) := hd 22 (by kernel_rfl)
      have HO := Lib.hid (HSA.out w' _ (S5.out.more ((Below.refl _ wr).drew.trans hb)).sv)
      dsimp only
      go_simp
      go_wp2_with (go_at_call 19; refine HO.out.mono ?_; rintro e w2 ⟨lv, rfl, hE, hb2⟩)
      have q := hK lv w2 hb2 hE
      simp only [hg, h0] at q
      exact q
     ·intro f w' hb hd K hK
      have hg : f 72 = .bool true := hd 21 (by kernel_rfl)
      have e0 := bkeep hb d0
      have e1 := bkeep hb d1
      have e2 := bkeep hb d2
      have e3 := bkeep hb d3
      have e4 := bkeep hb d4
      have e5 := bkeep hb d5
      dsimp only
      go_simp
      have q := hK (.agg #[.slice c n k, .slice s1 nS p, .slice a nA q, .slice t nT r, .slice x nP y, .slice z nB b]) w' (Below.refl _ _) rfl
      simp only [hg] at q
      exact q
     ·intro f w' hb hd K hK
      have hg : f 72 = .bool true := hd 21 (by kernel_rfl)
      have h0 : f 75 = (.agg #[.slice c n k, .slice s1 nS p, .slice a nA q, .slice t nT r, .slice x nP y, .slice z nB b]) := hd 24 (by kernel_rfl)
      have HO := Lib.hid (HSB.out w' _ (S5.out.more ((Below.refl _ wr).drew.trans hb)).sv)
      dsimp only
      go_simp
      go_wp2_with (go_at_call 20; refine HO.out.mono ?_; rintro e w2 ⟨lv, rfl, hE, hb2⟩)
      have q := hK lv w2 hb2 hE
      simp only [hg, h0] at q
      exact q
     ·intro f w' hb hd K hK
      have hg : f 72 = .bool true := hd 21 (by kernel_rfl)
      have r0 : IntsAt w' (f 74) PL := hd 23 (by kernel_rfl)
      have r1 : IntsAt w' (f 76) PL := hd 25 (by kernel_rfl)
      have HO := Lib.hid (ints_same _ _ _ w' r0 r1 L4.out)
      clear r0 r1
      dsimp only
      go_simp
      go_wp2_with (go_at_call 12; refine HO.out.mono ?_; rintro e w2 ⟨rfl, hb2⟩)
      have q := hK (.bool true) w2 hb2 rfl
      simp only [hg] at q
      exact q
     ·intro f w' hb hd K hK
      have h0 : f 72 = (.bool true) := hd 21 (by kernel_rfl)
      have h1 : f 77 = (.bool true) := hd 26 (by kernel_rfl)
      dsimp only
      go_simp
      have q := hK (.bool true) w' (Below.refl _ _) rfl
      simp only [h0, h1] at q
      exact q
     ·intro f w' hb hd K hK
      have h0 : f 78 = (.bool true) := hd 27 (by kernel_rfl)
      dsimp only
      go_simp
      have q := hK (.bool true) w' (Below.refl _ _) rfl
      simp only [h0] at q
      exact q
     ·intro f w' hb hd K hK
      have hg : f 79 = .bool true := hd 28 (by kernel_rfl)
      have HO := Lib.hid (HKN.out w')
      dsimp only
      go_simp
      go_wp2_with (go_at_call 8; refine HO.out.mono ?_; rintro e w2 ⟨rfl, hb2⟩)
      have q := hK (.bool true) w2 hb2 rfl
      simp only [hg] at q
      exact q
     ·intro f w' hb hd K hK
      have h0 : f 79 = (.bool true) := hd 28 (by kernel_rfl)
      have h1 : f 80 = (.bool true) := hd 29 (by kernel_rfl)
      dsimp only
      go_simp
      have q := hK (.bool true) w' (Below.refl _ _) rfl
      simp only [h0, h1] at q
      exact q
     ·intro f w' hb hd K hK
      have h0 : f 81 = (.bool true) := hd 30 (by kernel_rfl)
      dsimp only
      go_simp
      have q := hK (.bool true) w' (Below.refl _ _) rfl
      simp only [h0] at q
      exact q
    ·intro f w' hb hr
     have h4 : f 4 = .bool true := hr 31 (by decide)
     have HB2 := Lib.hid (S5.out.more hb).below
     clear hr hb
     dsimp only
     rw [h4]
     generalize f 51 = yy51
     generalize f 52 = yy52
     generalize f 53 = yy53
     generalize f 54 = yy54
     generalize f 55 = yy55
     generalize f 56 = yy56
     generalize f 57 = yy57
     generalize f 58 = yy58
     generalize f 59 = yy59
     generalize f 60 = yy60
     generalize f 61 = yy61
     generalize f 62 = yy62
     generalize f 63 = yy63
     generalize f 64 = yy64
     generalize f 65 = yy65
     generalize f 66 = yy66
     generalize f 67 = yy67
     generalize f 68 = yy68
     generalize f 69 = yy69
     generalize f 70 = yy70
     generalize f 71 = yy71
     generalize f 72 = yy72
     generalize f 73 = yy73
     generalize f 74 = yy74
     generalize f 75 = yy75
     generalize f 76 = yy76
     generalize f 77 = yy77
     generalize f 78 = yy78
     generalize f 79 = yy79
     generalize f 80 = yy80
     generalize f 81 = yy81
     go_wp2_with fail
     go_ret
     exact ⟨rfl, HB2.out⟩
end Go.Proofs.Ytlhpjfnfemebdaa
