/-
  spinnakerlaw30.CoverDepths: the walk. (Written by a generator.)
-/
import Derived.Test.YtlhpjfnfemebdaaJCovT
import Derived.Test.YtlhpjfnfemebdaaKn30
import Derived.Test.YtlhpjfnfemebdaaJMade30
namespace Go.Proofs.Ytlhpjfnfemebdaa
open Go.RowKit
set_option maxRecDepth 100000 in
set_option maxHeartbeats 64000000 in
theorem coverDepths (v : Value) (u : PUn) (model room budget : Int) (w : World) (h : CaseV w v u model room budget) :
  Calls Try.prog 4 #[v] w fun e w' => e = .returned (.bool true) ∧ Below w.heap.size w w' := by
 obtain ⟨vi, vr, vc, rfl, hu⟩ := h.ex
 have HMA := Lib.hid (fun (w' : World) (hb : Below w.heap.size w w') => made_ok _ u model room budget w' (h.below hb))
 have HUV := Lib.hid (fun (w' : World) (hb : Below w.heap.size w w') => hu.below hb)
 have HKN := Lib.hid known30
 have S0 := Lib.hid (BxS.start w #[.int .i64 u.mod, vi, vr, vc, .int .i64 model, .int .i64 room, .int .i64 budget] 27)
 have c0 := cell_of_block S0.out.blk 0 (.int .i64 u.mod) rfl
 have c1 := cell_of_block S0.out.blk 1 vi rfl
 have c2 := cell_of_block S0.out.blk 2 vr rfl
 have c3 := cell_of_block S0.out.blk 3 vc rfl
 have c4 := cell_of_block S0.out.blk 4 (.int .i64 model) rfl
 have c5 := cell_of_block S0.out.blk 5 (.int .i64 room) rfl
 have c6 := cell_of_block S0.out.blk 6 (.int .i64 budget) rfl
 obtain ⟨vi', vr', vc', e, ⟨ai, ci, rfl, -⟩, ⟨ar, cr, rfl, -⟩, ⟨ac, cc, rfl, -⟩⟩ := id hu
 simp only [Value.agg.injEq, Array.mk.injEq, List.cons.injEq, and_true, true_and] at e
 obtain ⟨rfl, rfl, rfl⟩ := e
 clear h hu
 cases hR : madeS u model room budget with
 | none =>
  rw [hR] at HMA
  clear hR
  go_enter Try.func4, Try.ntmps4
  go_wp2_with (first
   | (go_at_call 8; refine (HKN.out _).mono ?_; rintro e w3 ⟨rfl, hb3⟩; have S3 := Lib.hid (S2.out.more hb3); clear hb3)
   | (go_at_call 7; refine (HMA.out _ S0.out.below).mono ?_; rintro e w2 ⟨rfl, hb2⟩; have S2 := Lib.hid ((S0.out.more hb2).more (balloc w2 (.cells #[.slice none 0 0, .slice none 0 0, .slice none 0 0, .slice none 0 0, .slice none 0 0, .slice none 0 0] 32))); clear hb2))
  go_ret
  exact ⟨rfl, S3.out.below⟩
 | some s =>
  obtain ⟨hG, hL⟩ := made_good hR
  rw [hR] at HMA
  clear hR
  have HG := Lib.hid hG
  have HL := Lib.hid hL
  have HDA := Lib.hid (fun (w' : World) (sv : Value) (h2 : SpV w' sv s) => depths_ok sv s _ w' h2 hG.dp hG.ok ⟨hG.pos, hG.le⟩ hG.edl)
  have HWA := Lib.hid (fun (w' : World) (sv : Value) (h2 : SpV w' sv s) => widths_ok sv s _ w' h2 hG.dp hG.ok ⟨hG.pos, hG.le⟩ hG.edl)
  have HTO := Lib.hid (fun (w' : World) (sv : Value) (h2 : SpV w' sv s) (i : Nat) (hi : i < s.confs.length) => to_ok sv s hG.par hG.lenP hG.lenA hG.le i i w' (Nat.le_refl _) hi h2)
  have HPL : Hid (∀ i, (pathL s.par s.ag i).length = depF s.par i) := Lib.hid (fun i => pathL_len s.par s.ag i)
  have HDP : Hid (∀ j, 1 ≤ j → j < s.confs.length → ∃ p : Nat, s.par.getD j 0 = (p : Int) ∧ p < j ∧ depF s.par j = depF s.par p + 1 ∧ depF s.par (j - 1) ≤ depF s.par j) := Lib.hid (fun j h1 hj => by
   have hp := hG.par j h1 hj
   refine ⟨(s.par.getD j 0).toNat, by omega, by omega, depF_succ hG.par h1 hj, hG.dp.mono (j - 1) j (by omega) hj⟩)
  have HD0 : Hid (depF s.par 0 = 0) := Lib.hid rfl
  have hpos := hG.pos
  have hle := hG.le
  have HDL2 : Hid (∀ j, j < s.confs.length → depF s.par j ≤ j) := Lib.hid hG.dp.le
  have HWP : Hid (∀ x, x ≤ depF s.par (s.confs.length - 1) → 1 ≤ cntD (depF s.par) s.confs.length x) := Lib.hid (fun x hx => (hG.dp.wpos hpos).2 hx)
  have HLT : Hid (ltD (depF s.par) s.confs.length (depF s.par (s.confs.length - 1) + 1) = s.confs.length) := Lib.hid (ltD_all fun j hj => by have := hG.dp.mono j (s.confs.length - 1) (by omega) (by omega); omega)
  have HLP : Hid (s.par.length = s.confs.length) := Lib.hid hG.lenP
  have HDLL : Hid ((depL s.confs.length (depF s.par)).length = s.confs.length ∧ ∀ j, j < s.confs.length → (depL s.confs.length (depF s.par)).getD j 0 = (depF s.par j : Int)) := Lib.hid ⟨tab_len _ _, fun j hj => tab_get _ _ _ _ hj⟩
  have HWLL : Hid ((widL s.confs.length (depF s.par)).length = depF s.par (s.confs.length - 1) + 1 ∧ ∀ j, j < depF s.par (s.confs.length - 1) + 1 → (widL s.confs.length (depF s.par)).getD j 0 = (cntD (depF s.par) s.confs.length j : Int)) := Lib.hid ⟨tab_len _ _, fun j hj => tab_get _ _ _ _ hj⟩
  generalize depL s.confs.length (depF s.par) = DL at *
  generalize widL s.confs.length (depF s.par) = WL at *
  generalize depF s.par = dep at *
  obtain ⟨N, hN⟩ : ∃ N, N = s.confs.length := ⟨_, rfl⟩
  rw [← hN] at HTO HDP hpos hle HDL2 HWP HLT HLP HDLL HWLL
  have HN := Lib.hid hN
  clear hN
  clear hG hL
  go_enter Try.func4, Try.ntmps4
  go_wp2_with (first
   | (go_at_call 13; refine (HDA.out _ _ S2.out.sv).mono ?_; rintro e w3 ⟨dv, rfl, hd, hb3⟩; have S3 := Lib.hid (S2.out.more hb3); have PR3 := Lib.hid ((HPAR.out.below (balloc w2 _)).below hb3); obtain ⟨da, dc, rfl, -⟩ := id hd; have D3 := Lib.hid hd; clear hd hb3 S2 HPAR; clear c0 c1 c2 c3 c4 c5 c6 d0 d1 d2 d3 d4 d5; have hn := HNN.out; rw [← HN.out] at hn; subst hn; have hdl := HDLL.out.1; rw [hdl]; have c0 := cell_of_block S3.out.bc 0 (.int .i64 u.mod) rfl; have c1 := cell_of_block S3.out.bc 1 (.slice ai u.init.length ci) rfl; have c2 := cell_of_block S3.out.bc 2 (.slice ar u.regs.length cr) rfl; have c3 := cell_of_block S3.out.bc 3 (.slice ac u.code.length cc) rfl; have c4 := cell_of_block S3.out.bc 4 (.int .i64 model) rfl; have c5 := cell_of_block S3.out.bc 5 (.int .i64 room) rfl; have c6 := cell_of_block S3.out.bc 6 (.int .i64 budget) rfl; have d0 := cell_of_block S3.out.bs 0 (.slice c n k) rfl; have d1 := cell_of_block S3.out.bs 1 (.slice s1 nS p) rfl; have d2 := cell_of_block S3.out.bs 2 (.slice a nA q) rfl; have d3 := cell_of_block S3.out.bs 3 (.slice t nT r) rfl; have d4 := cell_of_block S3.out.bs 4 (.slice x nP y) rfl; have d5 := cell_of_block S3.out.bs 5 (.slice z nB b) rfl)
   | (go_at_call 7; refine (HMA.out _ S0.out.below).mono ?_; rintro e w2 ⟨⟨sv, rfl, hsv⟩, hb2⟩; obtain ⟨c, n, k, s1, nS, p, a, nA, q, t, nT, r, x, nP, y, z, nB, b, rfl, hn⟩ := hsv.six; have HNN := Lib.hid hn; obtain ⟨vC9, sa9, sc9, aa9, ac9, ta9, tc9, vP9, vA9, e9, -, -, hP9, -⟩ := id hsv.var; simp only [Value.agg.injEq, Array.mk.injEq, List.cons.injEq, and_true] at e9; have HPAR := Lib.hid (show IntsAt w2 (.slice x nP y) s.par by rw [e9.2.2.2.2.1]; exact hP9); clear hP9 e9; have X2 := S0.out.more hb2; have S2 := Lib.hid (LS.start X2.below X2.blk hsv); clear hsv hb2 hn X2; clear c0 c1 c2 c3 c4 c5 c6; have c0 := cell_of_block S2.out.bc 0 (.int .i64 u.mod) rfl; have c1 := cell_of_block S2.out.bc 1 (.slice ai u.init.length ci) rfl; have c2 := cell_of_block S2.out.bc 2 (.slice ar u.regs.length cr) rfl; have c3 := cell_of_block S2.out.bc 3 (.slice ac u.code.length cc) rfl; have c4 := cell_of_block S2.out.bc 4 (.int .i64 model) rfl; have c5 := cell_of_block S2.out.bc 5 (.int .i64 room) rfl; have c6 := cell_of_block S2.out.bc 6 (.int .i64 budget) rfl; have d0 := cell_of_block S2.out.bs 0 (.slice c n k) rfl; have d1 := cell_of_block S2.out.bs 1 (.slice s1 nS p) rfl; have d2 := cell_of_block S2.out.bs 2 (.slice a nA q) rfl; have d3 := cell_of_block S2.out.bs 3 (.slice t nT r) rfl; have d4 := cell_of_block S2.out.bs 4 (.slice x nP y) rfl; have d5 := cell_of_block S2.out.bs 5 (.slice z nB b) rfl))
  generalize w2.heap.size = b9 at *
  go_loopg [6] n (fun fu c wr => ∃ j : Nat, j + fu = n ∧ c = .int .i64 j ∧ Hid (Below w3.heap.size w3 wr))
  case atStart => exact ⟨0, by omega, rfl, Lib.hid (Below.refl _ _)⟩
  case round =>
   obtain ⟨j, hj, rfl, HB⟩ := hrel
   by_cases hlt : j < n
   ·have z1 : (j : Int) < (n : Int) := by omega
    obtain ⟨da', dc', e0, hD⟩ := D3.out.below HB.out
    cases e0
    obtain ⟨bd, od, rfl, yj⟩ := hD j (by rw [HDLL.out.1]; exact hlt)
    rw [HDLL.out.2 j hlt] at yj
    have HDC : Hid (∀ i, i < n → wr.cell? ⟨bd, od + i, none⟩ = some (.int .i64 (dep i : Nat))) := Lib.hid (fun i hi => by
     obtain ⟨b', o', e1, y⟩ := hD i (by rw [HDLL.out.1]; exact hi)
     cases e1
     rw [HDLL.out.2 i hi] at y; exact y)
    have S := Lib.hid (S3.out.more HB.out)
    have PR := Lib.hid (PR3.out.below HB.out)
    clear c0 c1 c2 c3 c4 c5 c6 d0 d1 d2 d3 d4 d5
    have c0 := cell_of_block S.out.bc 0 (.int .i64 u.mod) rfl
    have c1 := cell_of_block S.out.bc 1 (.slice ai u.init.length ci) rfl
    have c2 := cell_of_block S.out.bc 2 (.slice ar u.regs.length cr) rfl
    have c3 := cell_of_block S.out.bc 3 (.slice ac u.code.length cc) rfl
    have c4 := cell_of_block S.out.bc 4 (.int .i64 model) rfl
    have c5 := cell_of_block S.out.bc 5 (.int .i64 room) rfl
    have c6 := cell_of_block S.out.bc 6 (.int .i64 budget) rfl
    have d0 := cell_of_block S.out.bs 0 (.slice c n k) rfl
    have d1 := cell_of_block S.out.bs 1 (.slice s1 nS p) rfl
    have d2 := cell_of_block S.out.bs 2 (.slice a nA q) rfl
    have d3 := cell_of_block S.out.bs 3 (.slice t nT r) rfl
    have d4 := cell_of_block S.out.bs 4 (.slice x nP y) rfl
    have d5 := cell_of_block S.out.bs 5 (.slice z nB b) rfl
    have HT := Lib.hid (fun (w' : World) (hb : Below wr.heap.size wr w') => HTO.out w' _ (S.out.sv.below hb) j hlt)
    have HPJ := HPL.out j
    have HPJ2 := Lib.hid HPJ
    have hdjl := HDL2.out j hlt
    clear hD HPJ
    go_wp2_with fail
    by_cases hj0 : 0 < j
    ·obtain ⟨pp, hp, hpj, hdj, hdm⟩ := HDP.out j hj0 hlt
     obtain ⟨xa9, xc9, e0, hP⟩ := PR.out
     simp only [Value.slice.injEq] at e0
     obtain ⟨rfl, e8, -⟩ := e0
     obtain ⟨bp, op, rfl, yp⟩ := hP j (by rw [HLP.out]; exact hlt)
     rw [hp] at yp
     have ydp := HDC.out pp (by omega)
     obtain ⟨i, hi⟩ : ∃ i, i = j - 1 := ⟨_, rfl⟩
     rw [← hi] at hdm
     have ydi := HDC.out i (by omega)
     have e2 : IntKind.i64.wrap ((j : Int) - 1) = (i : Int) := by rw [IntWalk.i64_in _ (by omega)]; omega
     have e3 : IntKind.i64.wrap ((dep pp : Int) + 1) = (dep pp : Int) + 1 := IntWalk.i64_in _ (by omega)
     have z6 : (pp : Int) < (n : Int) := by omega
     have z7 : (i : Int) < (n : Int) := by omega
     have z8 : ¬ ((dep pp : Int) + 1 < (dep i : Int)) := by omega
     have z9 : (0 : Int) < (j : Int) := by omega
     have z10 : (j : Int) < (nP : Int) := by rw [e8, HLP.out]; omega
     rw [hdj] at yj HPJ2
     rw [show (((dep pp + 1 : Nat)) : Int) = (dep pp : Int) + 1 from rfl] at yj
     clear hP hp hpj hdj hdm hi e8 HDC PR hdjl
     generalize dep pp = dp at *
     generalize dep i = di at *
     refine region_rel (fun q => match q with | 32 => u32 | 33 => u33 | 34 => u34 | 35 => u35 | 36 => u36 | 37 => u37 | 38 => u38 | 39 => u39 | 40 => u40 | 41 => u41 | 42 => u42 | 43 => u43 | 44 => u44 | 45 => u45 | 46 => u46 | 47 => u47 | 48 => u48 | 49 => u49 | 50 => u50 | 51 => u51 | 52 => u52 | 53 => u53 | 54 => u54 | 55 => u55 | 56 => u56 | 57 => u57 | 58 => u58 | 59 => u59 | 60 => u60 | 61 => u61 | 62 => u62 | 63 => u63 | 64 => u64 | 65 => u65 | 66 => u66 | 67 => u67 | 68 => u68 | 69 => u69 | 70 => u70 | 71 => u71 | 72 => u72 | 73 => u73 | 74 => u74 | 75 => u75 | 76 => u76 | _ => undef)
      (fun f => { tmps := #[.agg #[.int .i64 u.mod, .slice ai u.init.length ci, .slice ar u.regs.length cr, .slice ac u.code.length cc, .int .i64 model, .int .i64 room, .int .i64 budget], .pointer (some ⟨w.heap.size, 0, none⟩), u2, .pointer (some ⟨b9, 0, none⟩), .bool true, .slice (some ⟨bd, od, none⟩) n dc, .int .i64 (j : Nat), undef, undef, undef, .tuple #[.agg #[.slice c n k, .slice s1 nS p, .slice a nA q, .slice t nT r, .slice (some ⟨bp, op, none⟩) nP y, .slice z nB b], .bool true], .agg #[.int .i64 u.mod, .slice ai u.init.length ci, .slice ar u.regs.length cr, .slice ac u.code.length cc, .int .i64 model, .int .i64 room, .int .i64 budget], .tuple #[.agg #[.slice c n k, .slice s1 nS p, .slice a nA q, .slice t nT r, .slice (some ⟨bp, op, none⟩) nP y, .slice z nB b], .bool true], .agg #[.slice c n k, .slice s1 nS p, .slice a nA q, .slice t nT r, .slice (some ⟨bp, op, none⟩) nP y, .slice z nB b], .bool true, .bool true, .bool false, undef, .agg #[.slice c n k, .slice s1 nS p, .slice a nA q, .slice t nT r, .slice (some ⟨bp, op, none⟩) nP y, .slice z nB b], .slice (some ⟨bd, od, none⟩) n dc, .slice (some ⟨bd, od, none⟩) n dc, .int .i64 (n : Nat), .pointer (some ⟨b9, 0, none⟩), .slice c n k, .int .i64 (n : Nat), .bool false, .int .i64 (j : Nat), .slice (some ⟨bd, od, none⟩) n dc, .int .i64 (n : Nat), .bool true, u30, u31, f 32, f 33, f 34, f 35, f 36, f 37, f 38, f 39, f 40, f 41, f 42, f 43, f 44, f 45, f 46, f 47, f 48, f 49, f 50, f 51, f 52, f 53, f 54, f 55, f 56, f 57, f 58, f 59, f 60, f 61, f 62, f 63, f 64, f 65, f 66, f 67, f 68, f 69, f 70, f 71, f 72, f 73, f 74, f 75, f 76, undef, undef, undef, undef, undef, undef, undef, undef, undef, undef, undef, undef, undef, undef, undef, undef, undef, undef, undef, undef, undef, undef, undef, undef, undef, undef, undef, undef, undef, undef, undef, undef, undef, undef, undef, undef, undef, undef, undef], defers := [] }) (fun j => j + 32)
      (lenRel 6 (dp + 1) [(.slice (some ⟨bd, od, none⟩) n dc), (.int .i64 (j : Nat)), (.pointer (some ⟨bd, od + j, none⟩)), (.int .i64 ((dp : Int) + 1)), (.agg #[.slice c n k, .slice s1 nS p, .slice a nA q, .slice t nT r, .slice (some ⟨bp, op, none⟩) nP y, .slice z nB b]), (.int .i64 (j : Nat)), undef, (.int .i64 ((dp : Int) + 1)), (.bool false), (.bool false), (.int .i64 (j : Nat)), (.bool true), (.bool true), (.slice (some ⟨bd, od, none⟩) n dc), (.int .i64 (j : Nat)), (.pointer (some ⟨bd, od + j, none⟩)), (.int .i64 ((dp : Int) + 1)), (.slice (some ⟨bd, od, none⟩) n dc), (.pointer (some ⟨b9, 4, none⟩)), (.slice (some ⟨bp, op, none⟩) nP y), (.int .i64 (j : Nat)), (.pointer (some ⟨bp, op + j, none⟩)), (.int .i64 (pp : Nat)), (.pointer (some ⟨bd, od + pp, none⟩)), (.int .i64 (dp : Nat)), (.int .i64 ((dp : Int) + 1)), (.bool false), (.bool false), (.bool false), (.bool false), (.int .i64 (j : Nat)), (.bool true), (.bool true), (.slice (some ⟨bd, od, none⟩) n dc), (.int .i64 (j : Nat)), (.pointer (some ⟨bd, od + j, none⟩)), (.int .i64 ((dp : Int) + 1)), (.slice (some ⟨bd, od, none⟩) n dc), (.int .i64 (j : Nat)), (.int .i64 (i : Nat)), (.pointer (some ⟨bd, od + i, none⟩)), (.int .i64 (di : Nat)), (.bool false), (.bool false), (.bool false)])
      rfl (by kernel_rfl) (fun i u w w' hb h => lenRel_mono h) (by kernel_rfl) (by kernel_rfl) ?_ ?_ ?_
     ·intro j hj f v
      rcases j with _ | _ | _ | _ | _ | _ | _ | _ | _ | _ | _ | _ | _ | _ | _ | _ | _ | _ | _ | _ | _ | _ | _ | _ | _ | _ | _ | _ | _ | _ | _ | _ | _ | _ | _ | _ | _ | _ | _ | _ | _ | _ | _ | _ | _ | j
      all_goals first | rfl | (simp at hj; omega)
     ·refine ⟨?_, ?_, ?_, ?_, ?_, ?_, ?_, ?_, ?_, ?_, ?_, ?_, ?_, ?_, ?_, ?_, ?_, ?_, ?_, ?_, ?_, ?_, ?_, ?_, ?_, ?_, ?_, ?_, ?_, ?_, ?_, ?_, ?_, ?_, ?_, ?_, ?_, ?_, ?_, ?_, ?_, ?_, ?_, ?_, ?_, trivial⟩
      ·intro f w' hb hd K hK
       dsimp only
       go_simp
       exact hK (.slice (some ⟨bd, od, none⟩) n dc) w' (Below.refl _ _) rfl
      ·intro f w' hb hd K hK
       dsimp only
       go_simp
       exact hK (.int .i64 (j : Nat)) w' (Below.refl _ _) rfl
      ·intro f w' hb hd K hK
       have h0 : f 32 = (.slice (some ⟨bd, od, none⟩) n dc) := hd 0 (by kernel_rfl)
       have h1 : f 33 = (.int .i64 (j : Nat)) := hd 1 (by kernel_rfl)
       dsimp only
       go_simp
       have q := hK (.pointer (some ⟨bd, od + j, none⟩)) w' (Below.refl _ _) rfl
       simp only [h0, h1] at q
       exact q
      ·intro f w' hb hd K hK
       have h2 : f 34 = (.pointer (some ⟨bd, od + j, none⟩)) := hd 2 (by kernel_rfl)
       have e50 := bkeep hb yj
       dsimp only
       go_simp
       have q := hK (.int .i64 ((dp : Int) + 1)) w' (Below.refl _ _) rfl
       simp only [h2] at q
       exact q
      ·intro f w' hb hd K hK
       have e50 := bkeep hb d0
       have e51 := bkeep hb d1
       have e52 := bkeep hb d2
       have e53 := bkeep hb d3
       have e54 := bkeep hb d4
       have e55 := bkeep hb d5
       dsimp only
       go_simp
       exact hK (.agg #[.slice c n k, .slice s1 nS p, .slice a nA q, .slice t nT r, .slice (some ⟨bp, op, none⟩) nP y, .slice z nB b]) w' (Below.refl _ _) rfl
      ·intro f w' hb hd K hK
       dsimp only
       go_simp
       exact hK (.int .i64 (j : Nat)) w' (Below.refl _ _) rfl
      ·intro f w' hb hd K hK
       have h4 : f 36 = (.agg #[.slice c n k, .slice s1 nS p, .slice a nA q, .slice t nT r, .slice (some ⟨bp, op, none⟩) nP y, .slice z nB b]) := hd 4 (by kernel_rfl)
       have h5 : f 37 = (.int .i64 (j : Nat)) := hd 5 (by kernel_rfl)
       have HO2 := Lib.hid (HT.out w' ((Below.refl _ wr).drew.trans hb))
       dsimp only
       go_simp
       go_wp2_with (go_at_call 21; refine HO2.out.mono ?_; rintro e w5 ⟨rv, rfl, hO, hb5⟩; obtain ⟨ra, rc, rfl⟩ := ownv hO; rw [HPJ2.out])
       have q := hK _ w5 hb5 ⟨ra, rc, rfl⟩
       simp only [h4, h5] at q
       exact q
      ·intro f w' hb hd K hK
       obtain ⟨ra, rc, h6⟩ : ∃ a c, f 38 = .slice a (dp + 1) c := hd 6 (by kernel_rfl)
       dsimp only
       go_simp
       have q := hK (.int .i64 ((dp : Int) + 1)) w' (Below.refl _ _) rfl
       simp only [h6] at q
       exact q
      ·intro f w' hb hd K hK
       have h3 : f 35 = (.int .i64 ((dp : Int) + 1)) := hd 3 (by kernel_rfl)
       have h7 : f 39 = (.int .i64 ((dp : Int) + 1)) := hd 7 (by kernel_rfl)
       dsimp only
       go_simp
       have q := hK (.bool false) w' (Below.refl _ _) rfl
       simp only [h3, h7] at q
       exact q
      ·intro f w' hb hd K hK
       have h8 : f 40 = (.bool false) := hd 8 (by kernel_rfl)
       dsimp only
       go_simp
       have q := hK (.bool false) w' (Below.refl _ _) rfl
       simp only [h8] at q
       exact q
      ·intro f w' hb hd K hK
       have h9 : f 41 = (.bool false) := hd 9 (by kernel_rfl)
       dsimp only
       go_simp
       have q := hK (.int .i64 (j : Nat)) w' (Below.refl _ _) rfl
       simp only [h9] at q
       exact q
      ·intro f w' hb hd K hK
       have h9 : f 41 = (.bool false) := hd 9 (by kernel_rfl)
       have h10 : f 42 = (.int .i64 (j : Nat)) := hd 10 (by kernel_rfl)
       dsimp only
       go_simp
       have q := hK (.bool true) w' (Below.refl _ _) rfl
       simp only [h9, h10] at q
       exact q
      ·intro f w' hb hd K hK
       have h9 : f 41 = (.bool false) := hd 9 (by kernel_rfl)
       have h11 : f 43 = (.bool true) := hd 11 (by kernel_rfl)
       dsimp only
       go_simp
       have q := hK (.bool true) w' (Below.refl _ _) rfl
       simp only [h9, h11] at q
       exact q
      ·intro f w' hb hd K hK
       have h12 : f 44 = (.bool true) := hd 12 (by kernel_rfl)
       dsimp only
       go_simp
       have q := hK (.slice (some ⟨bd, od, none⟩) n dc) w' (Below.refl _ _) rfl
       simp only [h12] at q
       exact q
      ·intro f w' hb hd K hK
       have h12 : f 44 = (.bool true) := hd 12 (by kernel_rfl)
       dsimp only
       go_simp
       have q := hK (.int .i64 (j : Nat)) w' (Below.refl _ _) rfl
       simp only [h12] at q
       exact q
      ·intro f w' hb hd K hK
       have h12 : f 44 = (.bool true) := hd 12 (by kernel_rfl)
       have h13 : f 45 = (.slice (some ⟨bd, od, none⟩) n dc) := hd 13 (by kernel_rfl)
       have h14 : f 46 = (.int .i64 (j : Nat)) := hd 14 (by kernel_rfl)
       dsimp only
       go_simp
       have q := hK (.pointer (some ⟨bd, od + j, none⟩)) w' (Below.refl _ _) rfl
       simp only [h12, h13, h14] at q
       exact q
      ·intro f w' hb hd K hK
       have h12 : f 44 = (.bool true) := hd 12 (by kernel_rfl)
       have h15 : f 47 = (.pointer (some ⟨bd, od + j, none⟩)) := hd 15 (by kernel_rfl)
       have e50 := bkeep hb yj
       dsimp only
       go_simp
       have q := hK (.int .i64 ((dp : Int) + 1)) w' (Below.refl _ _) rfl
       simp only [h12, h15] at q
       exact q
      ·intro f w' hb hd K hK
       have h12 : f 44 = (.bool true) := hd 12 (by kernel_rfl)
       dsimp only
       go_simp
       have q := hK (.slice (some ⟨bd, od, none⟩) n dc) w' (Below.refl _ _) rfl
       simp only [h12] at q
       exact q
      ·intro f w' hb hd K hK
       have h12 : f 44 = (.bool true) := hd 12 (by kernel_rfl)
       dsimp only
       go_simp
       have q := hK (.pointer (some ⟨b9, 4, none⟩)) w' (Below.refl _ _) rfl
       simp only [h12] at q
       exact q
      ·intro f w' hb hd K hK
       have h12 : f 44 = (.bool true) := hd 12 (by kernel_rfl)
       have h18 : f 50 = (.pointer (some ⟨b9, 4, none⟩)) := hd 18 (by kernel_rfl)
       have e50 := bkeep hb d4
       dsimp only
       go_simp
       have q := hK (.slice (some ⟨bp, op, none⟩) nP y) w' (Below.refl _ _) rfl
       simp only [h12, h18] at q
       exact q
      ·intro f w' hb hd K hK
       have h12 : f 44 = (.bool true) := hd 12 (by kernel_rfl)
       dsimp only
       go_simp
       have q := hK (.int .i64 (j : Nat)) w' (Below.refl _ _) rfl
       simp only [h12] at q
       exact q
      ·intro f w' hb hd K hK
       have h12 : f 44 = (.bool true) := hd 12 (by kernel_rfl)
       have h19 : f 51 = (.slice (some ⟨bp, op, none⟩) nP y) := hd 19 (by kernel_rfl)
       have h20 : f 52 = (.int .i64 (j : Nat)) := hd 20 (by kernel_rfl)
       dsimp only
       go_simp
       have q := hK (.pointer (some ⟨bp, op + j, none⟩)) w' (Below.refl _ _) rfl
       simp only [h12, h19, h20] at q
       exact q
      ·intro f w' hb hd K hK
       have h12 : f 44 = (.bool true) := hd 12 (by kernel_rfl)
       have h21 : f 53 = (.pointer (some ⟨bp, op + j, none⟩)) := hd 21 (by kernel_rfl)
       have e50 := bkeep hb yp
       dsimp only
       go_simp
       have q := hK (.int .i64 (pp : Nat)) w' (Below.refl _ _) rfl
       simp only [h12, h21] at q
       exact q
      ·intro f w' hb hd K hK
       have h12 : f 44 = (.bool true) := hd 12 (by kernel_rfl)
       have h17 : f 49 = (.slice (some ⟨bd, od, none⟩) n dc) := hd 17 (by kernel_rfl)
       have h22 : f 54 = (.int .i64 (pp : Nat)) := hd 22 (by kernel_rfl)
       dsimp only
       go_simp
       have q := hK (.pointer (some ⟨bd, od + pp, none⟩)) w' (Below.refl _ _) rfl
       simp only [h12, h17, h22] at q
       exact q
      ·intro f w' hb hd K hK
       have h12 : f 44 = (.bool true) := hd 12 (by kernel_rfl)
       have h23 : f 55 = (.pointer (some ⟨bd, od + pp, none⟩)) := hd 23 (by kernel_rfl)
       have e50 := bkeep hb ydp
       dsimp only
       go_simp
       have q := hK (.int .i64 (dp : Nat)) w' (Below.refl _ _) rfl
       simp only [h12, h23] at q
       exact q
      ·intro f w' hb hd K hK
       have h12 : f 44 = (.bool true) := hd 12 (by kernel_rfl)
       have h24 : f 56 = (.int .i64 (dp : Nat)) := hd 24 (by kernel_rfl)
       dsimp only
       go_simp
       have q := hK (.int .i64 ((dp : Int) + 1)) w' (Below.refl _ _) rfl
       simp only [h12, h24] at q
       exact q
      ·intro f w' hb hd K hK
       have h12 : f 44 = (.bool true) := hd 12 (by kernel_rfl)
       have h16 : f 48 = (.int .i64 ((dp : Int) + 1)) := hd 16 (by kernel_rfl)
       have h25 : f 57 = (.int .i64 ((dp : Int) + 1)) := hd 25 (by kernel_rfl)
       dsimp only
       go_simp
       have q := hK (.bool false) w' (Below.refl _ _) rfl
       simp only [h12, h16, h25] at q
       exact q
      ·intro f w' hb hd K hK
       have h9 : f 41 = (.bool false) := hd 9 (by kernel_rfl)
       have h12 : f 44 = (.bool true) := hd 12 (by kernel_rfl)
       have h26 : f 58 = (.bool false) := hd 26 (by kernel_rfl)
       dsimp only
       go_simp
       have q := hK (.bool false) w' (Below.refl _ _) rfl
       simp only [h9, h12, h26] at q
       exact q
      ·intro f w' hb hd K hK
       have h9 : f 41 = (.bool false) := hd 9 (by kernel_rfl)
       have h27 : f 59 = (.bool false) := hd 27 (by kernel_rfl)
       dsimp only
       go_simp
       have q := hK (.bool false) w' (Below.refl _ _) rfl
       simp only [h9, h27] at q
       exact q
      ·intro f w' hb hd K hK
       have h28 : f 60 = (.bool false) := hd 28 (by kernel_rfl)
       dsimp only
       go_simp
       have q := hK (.bool false) w' (Below.refl _ _) rfl
       simp only [h28] at q
       exact q
      ·intro f w' hb hd K hK
       have h29 : f 61 = (.bool false) := hd 29 (by kernel_rfl)
       dsimp only
       go_simp
       have q := hK (.int .i64 (j : Nat)) w' (Below.refl _ _) rfl
       simp only [h29] at q
       exact q
      ·intro f w' hb hd K hK
       have h29 : f 61 = (.bool false) := hd 29 (by kernel_rfl)
       have h30 : f 62 = (.int .i64 (j : Nat)) := hd 30 (by kernel_rfl)
       dsimp only
       go_simp
       have q := hK (.bool true) w' (Below.refl _ _) rfl
       simp only [h29, h30] at q
       exact q
      ·intro f w' hb hd K hK
       have h29 : f 61 = (.bool false) := hd 29 (by kernel_rfl)
       have h31 : f 63 = (.bool true) := hd 31 (by kernel_rfl)
       dsimp only
       go_simp
       have q := hK (.bool true) w' (Below.refl _ _) rfl
       simp only [h29, h31] at q
       exact q
      ·intro f w' hb hd K hK
       have h32 : f 64 = (.bool true) := hd 32 (by kernel_rfl)
       dsimp only
       go_simp
       have q := hK (.slice (some ⟨bd, od, none⟩) n dc) w' (Below.refl _ _) rfl
       simp only [h32] at q
       exact q
      ·intro f w' hb hd K hK
       have h32 : f 64 = (.bool true) := hd 32 (by kernel_rfl)
       dsimp only
       go_simp
       have q := hK (.int .i64 (j : Nat)) w' (Below.refl _ _) rfl
       simp only [h32] at q
       exact q
      ·intro f w' hb hd K hK
       have h32 : f 64 = (.bool true) := hd 32 (by kernel_rfl)
       have h33 : f 65 = (.slice (some ⟨bd, od, none⟩) n dc) := hd 33 (by kernel_rfl)
       have h34 : f 66 = (.int .i64 (j : Nat)) := hd 34 (by kernel_rfl)
       dsimp only
       go_simp
       have q := hK (.pointer (some ⟨bd, od + j, none⟩)) w' (Below.refl _ _) rfl
       simp only [h32, h33, h34] at q
       exact q
      ·intro f w' hb hd K hK
       have h32 : f 64 = (.bool true) := hd 32 (by kernel_rfl)
       have h35 : f 67 = (.pointer (some ⟨bd, od + j, none⟩)) := hd 35 (by kernel_rfl)
       have e50 := bkeep hb yj
       dsimp only
       go_simp
       have q := hK (.int .i64 ((dp : Int) + 1)) w' (Below.refl _ _) rfl
       simp only [h32, h35] at q
       exact q
      ·intro f w' hb hd K hK
       have h32 : f 64 = (.bool true) := hd 32 (by kernel_rfl)
       dsimp only
       go_simp
       have q := hK (.slice (some ⟨bd, od, none⟩) n dc) w' (Below.refl _ _) rfl
       simp only [h32] at q
       exact q
      ·intro f w' hb hd K hK
       have h32 : f 64 = (.bool true) := hd 32 (by kernel_rfl)
       dsimp only
       go_simp
       have q := hK (.int .i64 (j : Nat)) w' (Below.refl _ _) rfl
       simp only [h32] at q
       exact q
      ·intro f w' hb hd K hK
       have h32 : f 64 = (.bool true) := hd 32 (by kernel_rfl)
       have h38 : f 70 = (.int .i64 (j : Nat)) := hd 38 (by kernel_rfl)
       dsimp only
       go_simp
       have q := hK (.int .i64 (i : Nat)) w' (Below.refl _ _) rfl
       simp only [h32, h38] at q
       exact q
      ·intro f w' hb hd K hK
       have h32 : f 64 = (.bool true) := hd 32 (by kernel_rfl)
       have h37 : f 69 = (.slice (some ⟨bd, od, none⟩) n dc) := hd 37 (by kernel_rfl)
       have h39 : f 71 = (.int .i64 (i : Nat)) := hd 39 (by kernel_rfl)
       dsimp only
       go_simp
       have q := hK (.pointer (some ⟨bd, od + i, none⟩)) w' (Below.refl _ _) rfl
       simp only [h32, h37, h39] at q
       exact q
      ·intro f w' hb hd K hK
       have h32 : f 64 = (.bool true) := hd 32 (by kernel_rfl)
       have h40 : f 72 = (.pointer (some ⟨bd, od + i, none⟩)) := hd 40 (by kernel_rfl)
       have e50 := bkeep hb ydi
       dsimp only
       go_simp
       have q := hK (.int .i64 (di : Nat)) w' (Below.refl _ _) rfl
       simp only [h32, h40] at q
       exact q
      ·intro f w' hb hd K hK
       have h32 : f 64 = (.bool true) := hd 32 (by kernel_rfl)
       have h36 : f 68 = (.int .i64 ((dp : Int) + 1)) := hd 36 (by kernel_rfl)
       have h41 : f 73 = (.int .i64 (di : Nat)) := hd 41 (by kernel_rfl)
       dsimp only
       go_simp
       have q := hK (.bool false) w' (Below.refl _ _) rfl
       simp only [h32, h36, h41] at q
       exact q
      ·intro f w' hb hd K hK
       have h29 : f 61 = (.bool false) := hd 29 (by kernel_rfl)
       have h32 : f 64 = (.bool true) := hd 32 (by kernel_rfl)
       have h42 : f 74 = (.bool false) := hd 42 (by kernel_rfl)
       dsimp only
       go_simp
       have q := hK (.bool false) w' (Below.refl _ _) rfl
       simp only [h29, h32, h42] at q
       exact q
      ·intro f w' hb hd K hK
       have h29 : f 61 = (.bool false) := hd 29 (by kernel_rfl)
       have h43 : f 75 = (.bool false) := hd 43 (by kernel_rfl)
       dsimp only
       go_simp
       have q := hK (.bool false) w' (Below.refl _ _) rfl
       simp only [h29, h43] at q
       exact q
     intro f w5 hb5 hr
     have h76 : f 76 = .bool false := hr 44 (by decide)
     clear hr
     simp only [h76]
     generalize f 32 = yy32
     generalize f 33 = yy33
     generalize f 34 = yy34
     generalize f 35 = yy35
     generalize f 36 = yy36
     generalize f 37 = yy37
     generalize f 38 = yy38
     generalize f 39 = yy39
     generalize f 40 = yy40
     generalize f 41 = yy41
     generalize f 42 = yy42
     generalize f 43 = yy43
     generalize f 44 = yy44
     generalize f 45 = yy45
     generalize f 46 = yy46
     generalize f 47 = yy47
     generalize f 48 = yy48
     generalize f 49 = yy49
     generalize f 50 = yy50
     generalize f 51 = yy51
     generalize f 52 = yy52
     generalize f 53 = yy53
     generalize f 54 = yy54
     generalize f 55 = yy55
     generalize f 56 = yy56
     generalize f 57 = yy57
     generalize f 58 = yy58
     generalize f 59 = yy59
     generalize f 60 = yy60
     generalize f 61 = yy61
     generalize f 62 = yy62
     generalize f 63 = yy63
     generalize f 64 = yy64
     generalize f 65 = yy65
     generalize f 66 = yy66
     generalize f 67 = yy67
     generalize f 68 = yy68
     generalize f 69 = yy69
     generalize f 70 = yy70
     generalize f 71 = yy71
     generalize f 72 = yy72
     generalize f 73 = yy73
     generalize f 74 = yy74
     generalize f 75 = yy75
     have HB5 := Lib.hid (HB.out.trans (Below.mono hb5 HB.out.size))
     clear hb5
     go_wp2_with fail
     go_roundg (n - (j + 1))
     case measure => omega
     case rel => exact ⟨j + 1, by omega, by simp, HB5⟩
    ·have hj00 : dep j = 0 := by rw [show j = 0 from by omega]; exact HD0.out
     have z9 : ¬ (0 : Int) < (j : Int) := by omega
     rw [hj00] at yj HPJ2
     rw [show (((0 : Nat)) : Int) = 0 from rfl] at yj
     clear hj00 HDC PR hdjl
     refine region_rel (fun q => match q with | 32 => u32 | 33 => u33 | 34 => u34 | 35 => u35 | 36 => u36 | 37 => u37 | 38 => u38 | 39 => u39 | 40 => u40 | 41 => u41 | 42 => u42 | 43 => u43 | 44 => u44 | 45 => u45 | 46 => u46 | 47 => u47 | 48 => u48 | 49 => u49 | 50 => u50 | 51 => u51 | 52 => u52 | 53 => u53 | 54 => u54 | 55 => u55 | 56 => u56 | 57 => u57 | 58 => u58 | 59 => u59 | 60 => u60 | 61 => u61 | 62 => u62 | 63 => u63 | 64 => u64 | 65 => u65 | 66 => u66 | 67 => u67 | 68 => u68 | 69 => u69 | 70 => u70 | 71 => u71 | 72 => u72 | 73 => u73 | 74 => u74 | 75 => u75 | 76 => u76 | _ => undef)
      (fun f => { tmps := #[.agg #[.int .i64 u.mod, .slice ai u.init.length ci, .slice ar u.regs.length cr, .slice ac u.code.length cc, .int .i64 model, .int .i64 room, .int .i64 budget], .pointer (some ⟨w.heap.size, 0, none⟩), u2, .pointer (some ⟨b9, 0, none⟩), .bool true, .slice (some ⟨bd, od, none⟩) n dc, .int .i64 (j : Nat), undef, undef, undef, .tuple #[.agg #[.slice c n k, .slice s1 nS p, .slice a nA q, .slice t nT r, .slice x nP y, .slice z nB b], .bool true], .agg #[.int .i64 u.mod, .slice ai u.init.length ci, .slice ar u.regs.length cr, .slice ac u.code.length cc, .int .i64 model, .int .i64 room, .int .i64 budget], .tuple #[.agg #[.slice c n k, .slice s1 nS p, .slice a nA q, .slice t nT r, .slice x nP y, .slice z nB b], .bool true], .agg #[.slice c n k, .slice s1 nS p, .slice a nA q, .slice t nT r, .slice x nP y, .slice z nB b], .bool true, .bool true, .bool false, undef, .agg #[.slice c n k, .slice s1 nS p, .slice a nA q, .slice t nT r, .slice x nP y, .slice z nB b], .slice (some ⟨bd, od, none⟩) n dc, .slice (some ⟨bd, od, none⟩) n dc, .int .i64 (n : Nat), .pointer (some ⟨b9, 0, none⟩), .slice c n k, .int .i64 (n : Nat), .bool false, .int .i64 (j : Nat), .slice (some ⟨bd, od, none⟩) n dc, .int .i64 (n : Nat), .bool true, u30, u31, f 32, f 33, f 34, f 35, f 36, f 37, f 38, f 39, f 40, f 41, f 42, f 43, f 44, f 45, f 46, f 47, f 48, f 49, f 50, f 51, f 52, f 53, f 54, f 55, f 56, f 57, f 58, f 59, f 60, f 61, f 62, f 63, f 64, f 65, f 66, f 67, f 68, f 69, f 70, f 71, f 72, f 73, f 74, f 75, f 76, undef, undef, undef, undef, undef, undef, undef, undef, undef, undef, undef, undef, undef, undef, undef, undef, undef, undef, undef, undef, undef, undef, undef, undef, undef, undef, undef, undef, undef, undef, undef, undef, undef, undef, undef, undef, undef, undef, undef], defers := [] }) (fun j => j + 32)
      (lenRel 6 0 [(.slice (some ⟨bd, od, none⟩) n dc), (.int .i64 (j : Nat)), (.pointer (some ⟨bd, od + j, none⟩)), (.int .i64 0), (.agg #[.slice c n k, .slice s1 nS p, .slice a nA q, .slice t nT r, .slice x nP y, .slice z nB b]), (.int .i64 (j : Nat)), undef, (.int .i64 0), (.bool false), (.bool false), (.int .i64 (j : Nat)), (.bool false), (.bool false), undef, undef, undef, undef, undef, undef, undef, undef, undef, undef, undef, undef, undef, undef, (.bool false), (.bool false), (.bool false), (.int .i64 (j : Nat)), (.bool false), (.bool false), undef, undef, undef, undef, undef, undef, undef, undef, undef, undef, (.bool false), (.bool false)])
      rfl (by kernel_rfl) (fun i u w w' hb h => lenRel_mono h) (by kernel_rfl) (by kernel_rfl) ?_ ?_ ?_
     ·intro j hj f v
      rcases j with _ | _ | _ | _ | _ | _ | _ | _ | _ | _ | _ | _ | _ | _ | _ | _ | _ | _ | _ | _ | _ | _ | _ | _ | _ | _ | _ | _ | _ | _ | _ | _ | _ | _ | _ | _ | _ | _ | _ | _ | _ | _ | _ | _ | _ | j
      all_goals first | rfl | (simp at hj; omega)
     ·refine ⟨?_, ?_, ?_, ?_, ?_, ?_, ?_, ?_, ?_, ?_, ?_, ?_, ?_, ?_, ?_, ?_, ?_, ?_, ?_, ?_, ?_, ?_, ?_, ?_, ?_, ?_, ?_, ?_, ?_, ?_, ?_, ?_, ?_, ?_, ?_, ?_, ?_, ?_, ?_, ?_, ?_, ?_, ?_, ?_, ?_, trivial⟩
      ·intro f w' hb hd K hK
       dsimp only
       go_simp
       exact hK (.slice (some ⟨bd, od, none⟩) n dc) w' (Below.refl _ _) rfl
      ·intro f w' hb hd K hK
       dsimp only
       go_simp
       exact hK (.int .i64 (j : Nat)) w' (Below.refl _ _) rfl
      ·intro f w' hb hd K hK
       have h0 : f 32 = (.slice (some ⟨bd, od, none⟩) n dc) := hd 0 (by kernel_rfl)
       have h1 : f 33 = (.int .i64 (j : Nat)) := hd 1 (by kernel_rfl)
       dsimp only
       go_simp
       have q := hK (.pointer (some ⟨bd, od + j, none⟩)) w' (Below.refl _ _) rfl
       simp only [h0, h1] at q
       exact q
      ·intro f w' hb hd K hK
       have h2 : f 34 = (.pointer (some ⟨bd, od + j, none⟩)) := hd 2 (by kernel_rfl)
       have e50 := bkeep hb yj
       dsimp only
       go_simp
       have q := hK (.int .i64 0) w' (Below.refl _ _) rfl
       simp only [h2] at q
       exact q
      ·intro f w' hb hd K hK
       have e50 := bkeep hb d0
       have e51 := bkeep hb d1
       have e52 := bkeep hb d2
       have e53 := bkeep hb d3
       have e54 := bkeep hb d4
       have e55 := bkeep hb d5
       dsimp only
       go_simp
       exact hK (.agg #[.slice c n k, .slice s1 nS p, .slice a nA q, .slice t nT r, .slice x nP y, .slice z nB b]) w' (Below.refl _ _) rfl
      ·intro f w' hb hd K hK
       dsimp only
       go_simp
       exact hK (.int .i64 (j : Nat)) w' (Below.refl _ _) rfl
      ·intro f w' hb hd K hK
       have h4 : f 36 = (.agg #[.slice c n k, .slice s1 nS p, .slice a nA q, .slice t nT r, .slice x nP y, .slice z nB b]) := hd 4 (by kernel_rfl)
       have h5 : f 37 = (.int .i64 (j : Nat)) := hd 5 (by kernel_rfl)
       have HO2 := Lib.hid (HT.out w' ((Below.refl _ wr).drew.trans hb))
       dsimp only
       go_simp
       go_wp2_with (go_at_call 21; refine HO2.out.mono ?_; rintro e w5 ⟨rv, rfl, hO, hb5⟩; obtain ⟨ra, rc, rfl⟩ := ownv hO; rw [HPJ2.out])
       have q := hK _ w5 hb5 ⟨ra, rc, rfl⟩
       simp only [h4, h5] at q
       exact q
      ·intro f w' hb hd K hK
       obtain ⟨ra, rc, h6⟩ : ∃ a c, f 38 = .slice a 0 c := hd 6 (by kernel_rfl)
       dsimp only
       go_simp
       have q := hK (.int .i64 0) w' (Below.refl _ _) rfl
       simp only [h6] at q
       exact q
      ·intro f w' hb hd K hK
       have h3 : f 35 = (.int .i64 0) := hd 3 (by kernel_rfl)
       have h7 : f 39 = (.int .i64 0) := hd 7 (by kernel_rfl)
       dsimp only
       go_simp
       have q := hK (.bool false) w' (Below.refl _ _) rfl
       simp only [h3, h7] at q
       exact q
      ·intro f w' hb hd K hK
       have h8 : f 40 = (.bool false) := hd 8 (by kernel_rfl)
       dsimp only
       go_simp
       have q := hK (.bool false) w' (Below.refl _ _) rfl
       simp only [h8] at q
       exact q
      ·intro f w' hb hd K hK
       have h9 : f 41 = (.bool false) := hd 9 (by kernel_rfl)
       dsimp only
       go_simp
       have q := hK (.int .i64 (j : Nat)) w' (Below.refl _ _) rfl
       simp only [h9] at q
       exact q
      ·intro f w' hb hd K hK
       have h9 : f 41 = (.bool false) := hd 9 (by kernel_rfl)
       have h10 : f 42 = (.int .i64 (j : Nat)) := hd 10 (by kernel_rfl)
       dsimp only
       go_simp
       have q := hK (.bool false) w' (Below.refl _ _) rfl
       simp only [h9, h10] at q
       exact q
      ·intro f w' hb hd K hK
       have h9 : f 41 = (.bool false) := hd 9 (by kernel_rfl)
       have h11 : f 43 = (.bool false) := hd 11 (by kernel_rfl)
       dsimp only
       go_simp
       have q := hK (.bool false) w' (Below.refl _ _) rfl
       simp only [h9, h11] at q
       exact q
      ·intro f w' hb hd K hK
       have h12 : f 44 = (.bool false) := hd 12 (by kernel_rfl)
       dsimp only
       go_simp
       have q := hK undef w' (Below.refl _ _) rfl
       simp only [h12] at q
       exact q
      ·intro f w' hb hd K hK
       have h12 : f 44 = (.bool false) := hd 12 (by kernel_rfl)
       dsimp only
       go_simp
       have q := hK undef w' (Below.refl _ _) rfl
       simp only [h12] at q
       exact q
      ·intro f w' hb hd K hK
       have h12 : f 44 = (.bool false) := hd 12 (by kernel_rfl)
       dsimp only
       go_simp
       have q := hK undef w' (Below.refl _ _) rfl
       simp only [h12] at q
       exact q
      ·intro f w' hb hd K hK
       have h12 : f 44 = (.bool false) := hd 12 (by kernel_rfl)
       dsimp only
       go_simp
       have q := hK undef w' (Below.refl _ _) rfl
       simp only [h12] at q
       exact q
      ·intro f w' hb hd K hK
       have h12 : f 44 = (.bool false) := hd 12 (by kernel_rfl)
       dsimp only
       go_simp
       have q := hK undef w' (Below.refl _ _) rfl
       simp only [h12] at q
       exact q
      ·intro f w' hb hd K hK
       have h12 : f 44 = (.bool false) := hd 12 (by kernel_rfl)
       dsimp only
       go_simp
       have q := hK undef w' (Below.refl _ _) rfl
       simp only [h12] at q
       exact q
      ·intro f w' hb hd K hK
       have h12 : f 44 = (.bool false) := hd 12 (by kernel_rfl)
       dsimp only
       go_simp
       have q := hK undef w' (Below.refl _ _) rfl
       simp only [h12] at q
       exact q
      ·intro f w' hb hd K hK
       have h12 : f 44 = (.bool false) := hd 12 (by kernel_rfl)
       dsimp only
       go_simp
       have q := hK undef w' (Below.refl _ _) rfl
       simp only [h12] at q
       exact q
      ·intro f w' hb hd K hK
       have h12 : f 44 = (.bool false) := hd 12 (by kernel_rfl)
       dsimp only
       go_simp
       have q := hK undef w' (Below.refl _ _) rfl
       simp only [h12] at q
       exact q
      ·intro f w' hb hd K hK
       have h12 : f 44 = (.bool false) := hd 12 (by kernel_rfl)
       dsimp only
       go_simp
       have q := hK undef w' (Below.refl _ _) rfl
       simp only [h12] at q
       exact q
      ·intro f w' hb hd K hK
       have h12 : f 44 = (.bool false) := hd 12 (by kernel_rfl)
       dsimp only
       go_simp
       have q := hK undef w' (Below.refl _ _) rfl
       simp only [h12] at q
       exact q
      ·intro f w' hb hd K hK
       have h12 : f 44 = (.bool false) := hd 12 (by kernel_rfl)
       dsimp only
       go_simp
       have q := hK undef w' (Below.refl _ _) rfl
       simp only [h12] at q
       exact q
      ·intro f w' hb hd K hK
       have h12 : f 44 = (.bool false) := hd 12 (by kernel_rfl)
       dsimp only
       go_simp
       have q := hK undef w' (Below.refl _ _) rfl
       simp only [h12] at q
       exact q
      ·intro f w' hb hd K hK
       have h12 : f 44 = (.bool false) := hd 12 (by kernel_rfl)
       dsimp only
       go_simp
       have q := hK undef w' (Below.refl _ _) rfl
       simp only [h12] at q
       exact q
      ·intro f w' hb hd K hK
       have h9 : f 41 = (.bool false) := hd 9 (by kernel_rfl)
       have h12 : f 44 = (.bool false) := hd 12 (by kernel_rfl)
       dsimp only
       go_simp
       have q := hK (.bool false) w' (Below.refl _ _) rfl
       simp only [h9, h12] at q
       exact q
      ·intro f w' hb hd K hK
       have h9 : f 41 = (.bool false) := hd 9 (by kernel_rfl)
       have h27 : f 59 = (.bool false) := hd 27 (by kernel_rfl)
       dsimp only
       go_simp
       have q := hK (.bool false) w' (Below.refl _ _) rfl
       simp only [h9, h27] at q
       exact q
      ·intro f w' hb hd K hK
       have h28 : f 60 = (.bool false) := hd 28 (by kernel_rfl)
       dsimp only
       go_simp
       have q := hK (.bool false) w' (Below.refl _ _) rfl
       simp only [h28] at q
       exact q
      ·intro f w' hb hd K hK
       have h29 : f 61 = (.bool false) := hd 29 (by kernel_rfl)
       dsimp only
       go_simp
       have q := hK (.int .i64 (j : Nat)) w' (Below.refl _ _) rfl
       simp only [h29] at q
       exact q
      ·intro f w' hb hd K hK
       have h29 : f 61 = (.bool false) := hd 29 (by kernel_rfl)
       have h30 : f 62 = (.int .i64 (j : Nat)) := hd 30 (by kernel_rfl)
       dsimp only
       go_simp
       have q := hK (.bool false) w' (Below.refl _ _) rfl
       simp only [h29, h30] at q
       exact q
      ·intro f w' hb hd K hK
       have h29 : f 61 = (.bool false) := hd 29 (by kernel_rfl)
       have h31 : f 63 = (.bool false) := hd 31 (by kernel_rfl)
       dsimp only
       go_simp
       have q := hK (.bool false) w' (Below.refl _ _) rfl
       simp only [h29, h31] at q
       exact q
      ·intro f w' hb hd K hK
       have h32 : f 64 = (.bool false) := hd 32 (by kernel_rfl)
       dsimp only
       go_simp
       have q := hK undef w' (Below.refl _ _) rfl
       simp only [h32] at q
       exact q
      ·intro f w' hb hd K hK
       have h32 : f 64 = (.bool false) := hd 32 (by kernel_rfl)
       dsimp only
       go_simp
       have q := hK undef w' (Below.refl _ _) rfl
       simp only [h32] at q
       exact q
      ·intro f w' hb hd K hK
       have h32 : f 64 = (.bool false) := hd 32 (by kernel_rfl)
       dsimp only
       go_simp
       have q := hK undef w' (Below.refl _ _) rfl
       simp only [h32] at q
       exact q
      ·intro f w' hb hd K hK
       have h32 : f 64 = (.bool false) := hd 32 (by kernel_rfl)
       dsimp only
       go_simp
       have q := hK undef w' (Below.refl _ _) rfl
       simp only [h32] at q
       exact q
      ·intro f w' hb hd K hK
       have h32 : f 64 = (.bool false) := hd 32 (by kernel_rfl)
       dsimp only
       go_simp
       have q := hK undef w' (Below.refl _ _) rfl
       simp only [h32] at q
       exact q
      ·intro f w' hb hd K hK
       have h32 : f 64 = (.bool false) := hd 32 (by kernel_rfl)
       dsimp only
       go_simp
       have q := hK undef w' (Below.refl _ _) rfl
       simp only [h32] at q
       exact q
      ·intro f w' hb hd K hK
       have h32 : f 64 = (.bool false) := hd 32 (by kernel_rfl)
       dsimp only
       go_simp
       have q := hK undef w' (Below.refl _ _) rfl
       simp only [h32] at q
       exact q
      ·intro f w' hb hd K hK
       have h32 : f 64 = (.bool false) := hd 32 (by kernel_rfl)
       dsimp only
       go_simp
       have q := hK undef w' (Below.refl _ _) rfl
       simp only [h32] at q
       exact q
      ·intro f w' hb hd K hK
       have h32 : f 64 = (.bool false) := hd 32 (by kernel_rfl)
       dsimp only
       go_simp
       have q := hK undef w' (Below.refl _ _) rfl
       simp only [h32] at q
       exact q
      ·intro f w' hb hd K hK
       have h32 : f 64 = (.bool false) := hd 32 (by kernel_rfl)
       dsimp only
       go_simp
       have q := hK undef w' (Below.refl _ _) rfl
       simp only [h32] at q
       exact q
      ·intro f w' hb hd K hK
       have h29 : f 61 = (.bool false) := hd 29 (by kernel_rfl)
       have h32 : f 64 = (.bool false) := hd 32 (by kernel_rfl)
       dsimp only
       go_simp
       have q := hK (.bool false) w' (Below.refl _ _) rfl
       simp only [h29, h32] at q
       exact q
      ·intro f w' hb hd K hK
       have h29 : f 61 = (.bool false) := hd 29 (by kernel_rfl)
       have h43 : f 75 = (.bool false) := hd 43 (by kernel_rfl)
       dsimp only
       go_simp
       have q := hK (.bool false) w' (Below.refl _ _) rfl
       simp only [h29, h43] at q
       exact q
     intro f w5 hb5 hr
     have h76 : f 76 = .bool false := hr 44 (by decide)
     clear hr
     simp only [h76]
     generalize f 32 = yy32
     generalize f 33 = yy33
     generalize f 34 = yy34
     generalize f 35 = yy35
     generalize f 36 = yy36
     generalize f 37 = yy37
     generalize f 38 = yy38
     generalize f 39 = yy39
     generalize f 40 = yy40
     generalize f 41 = yy41
     generalize f 42 = yy42
     generalize f 43 = yy43
     generalize f 44 = yy44
     generalize f 45 = yy45
     generalize f 46 = yy46
     generalize f 47 = yy47
     generalize f 48 = yy48
     generalize f 49 = yy49
     generalize f 50 = yy50
     generalize f 51 = yy51
     generalize f 52 = yy52
     generalize f 53 = yy53
     generalize f 54 = yy54
     generalize f 55 = yy55
     generalize f 56 = yy56
     generalize f 57 = yy57
     generalize f 58 = yy58
     generalize f 59 = yy59
     generalize f 60 = yy60
     generalize f 61 = yy61
     generalize f 62 = yy62
     generalize f 63 = yy63
     generalize f 64 = yy64
     generalize f 65 = yy65
     generalize f 66 = yy66
     generalize f 67 = yy67
     generalize f 68 = yy68
     generalize f 69 = yy69
     generalize f 70 = yy70
     generalize f 71 = yy71
     generalize f 72 = yy72
     generalize f 73 = yy73
     generalize f 74 = yy74
     generalize f 75 = yy75
     have HB5 := Lib.hid (HB.out.trans (Below.mono hb5 HB.out.size))
     clear hb5
     go_wp2_with fail
     go_roundg (n - (j + 1))
     case measure => omega
     case rel => exact ⟨j + 1, by omega, by simp, HB5⟩
   ·obtain rfl : n = j := by omega
    have z1 : ¬ (n : Int) < (n : Int) := by omega
    have S := Lib.hid (S3.out.more HB.out)
    have D := Lib.hid (D3.out.below HB.out)
    clear c0 c1 c2 c3 c4 c5 c6 d0 d1 d2 d3 d4 d5
    have c0 := cell_of_block S.out.bc 0 (.int .i64 u.mod) rfl
    have c1 := cell_of_block S.out.bc 1 (.slice ai u.init.length ci) rfl
    have c2 := cell_of_block S.out.bc 2 (.slice ar u.regs.length cr) rfl
    have c3 := cell_of_block S.out.bc 3 (.slice ac u.code.length cc) rfl
    have c4 := cell_of_block S.out.bc 4 (.int .i64 model) rfl
    have c5 := cell_of_block S.out.bc 5 (.int .i64 room) rfl
    have c6 := cell_of_block S.out.bc 6 (.int .i64 budget) rfl
    have d0 := cell_of_block S.out.bs 0 (.slice c n k) rfl
    have d1 := cell_of_block S.out.bs 1 (.slice s1 nS p) rfl
    have d2 := cell_of_block S.out.bs 2 (.slice a nA q) rfl
    have d3 := cell_of_block S.out.bs 3 (.slice t nT r) rfl
    have d4 := cell_of_block S.out.bs 4 (.slice x nP y) rfl
    have d5 := cell_of_block S.out.bs 5 (.slice z nB b) rfl
    have hdn := HDL2.out (n - 1) (by omega)
    go_wp2_with (go_at_call 15; refine (HWA.out _ _ S.out.sv).mono ?_; rintro e w4 ⟨wv, rfl, hw4, hb4⟩; have S4 := Lib.hid (S.out.more hb4); have D4 := Lib.hid (D.out.below hb4); obtain ⟨wa, wc, rfl, -⟩ := id hw4; have W4 := Lib.hid hw4; clear hw4 hb4 S D HB; clear c0 c1 c2 c3 c4 c5 c6 d0 d1 d2 d3 d4 d5)
    have hwl := HWLL.out.1
    rw [hwl]
    clear hwl
    obtain ⟨M, hM⟩ : ∃ M, M = dep (n - 1) := ⟨_, rfl⟩
    have HM := Lib.hid hM
    rw [← hM] at HWP HLT HWLL hdn ⊢
    clear hM
    go_loopg [8, 9] (M + 1) (fun fu sv c wr => ∃ q : Nat, q + fu = M + 1 ∧ c = .int .i64 q ∧ sv = .int .i64 (ltD dep n q : Nat) ∧ Hid (Below w4.heap.size w4 wr))
    case atStart => exact ⟨0, by omega, rfl, by rw [ltD_zero]; rfl, Lib.hid (Below.refl _ _)⟩
    case round =>
     obtain ⟨q, hq, rfl, rfl, HB⟩ := hrel
     have hle2 := ltD_le dep n q
     by_cases hqm : q < M + 1
     ·have z2 : (q : Int) < ((M : Int) + 1) := by omega
      obtain ⟨wa', wc', e0, hW⟩ := W4.out.below HB.out
      cases e0
      obtain ⟨bw, ow, rfl, yq⟩ := hW q (by rw [HWLL.out.1]; exact hqm)
      rw [HWLL.out.2 q hqm] at yq
      have hs := ltD_succ dep n q
      have hle3 := ltD_le dep n (q + 1)
      have hw1 := HWP.out q (by omega)
      rw [hs] at hle3
      have HS := Lib.hid hs
      have z3 : ¬ (cntD dep n q : Int) < 1 := by omega
      have e1 : IntKind.i64.wrap ((ltD dep n q : Int) + (cntD dep n q : Int)) = (ltD dep n q : Int) + (cntD dep n q : Int) := IntWalk.i64_in _ (by omega)
      clear hs hW
      generalize ltD dep n q = lq at *
      generalize cntD dep n q = cq at *
      go_wp2_with fail
      go_roundg (M + 1 - (q + 1))
      case measure => omega
      case rel => exact ⟨q + 1, by omega, by simp, by rw [HS.out]; simp, HB⟩
     ·obtain rfl : q = M + 1 := by omega
      have z2 : ¬ (((M : Nat) : Int) + 1 < ((M : Nat) : Int) + 1) := by omega
      have HLT2 := Lib.hid HLT.out
      have S5 := Lib.hid (S4.out.more HB.out)
      have d0 := cell_of_block S5.out.bs 0 (.slice c n k) rfl
      obtain ⟨da', dc', e0, hD⟩ := D4.out.below HB.out
      cases e0
      obtain ⟨bd, od, rfl, yj⟩ := hD (n - 1) (by rw [HDLL.out.1]; omega)
      rw [HDLL.out.2 (n - 1) (by omega), ← HM.out] at yj
      obtain ⟨i, hi⟩ : ∃ i, n = i + 1 := ⟨n - 1, by omega⟩
      rw [HLT.out]
      have e1 : IntKind.i64.wrap ((n : Int) - 1) = ((n - 1 : Nat) : Int) := by rw [IntWalk.i64_in _ (by omega)]; omega
      have e2 : IntKind.i64.wrap ((M : Int) + 1) = (M : Int) + 1 := IntWalk.i64_in _ (by omega)
      have z6 : ((n - 1 : Nat) : Int) < (n : Int) := by omega
      clear hD hi hle2
      go_wp2_with (go_at_call 8; refine (HKN.out _).mono ?_; rintro e w6 ⟨rfl, hb6⟩; have S6 := Lib.hid (S5.out.more hb6); clear hb6)
      go_ret
      exact ⟨rfl, S6.out.below⟩
end Go.Proofs.Ytlhpjfnfemebdaa
