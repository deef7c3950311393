/-
  spinnakerlaw18.FairFinds: the walk. (Written by gen_fairfinds.py.)
-/
import Derived.Test.YtnlaonppgebpoaaLawFound
namespace Go.Proofs.Ytnlaonppgebpoaa
open Go.RowKit

set_option maxRecDepth 100000 in
set_option maxHeartbeats 64000000 in
theorem fairFinds (v : Value) (g : Gr) (en : List (List Bool)) (ag mode : Int) (w : World) (h : TabArg w v g en ag) :
    Calls Try.prog 13 #[v, .int .i64 mode] w fun e w' => e = .returned (.bool true) ∧ Below w.heap.size w w' := by
  have HLT := Lib.hid (fun (w' : World) (hb : Below w.heap.size w w') => tlight_ok v g en ag w' (h.below hb))
  obtain ⟨sa, aa, ta, sc, ac, tc, ua, uc, rfl, hg, hu⟩ := h.var
  have S0 := Lib.hid (BxSt.start w #[.slice sa g.S.length sc, .slice aa g.A.length ac, .slice ta g.T.length tc, .slice ua en.length uc, .int .i64 ag] 55)
  cases hl : litT g en ag
  · rw [hl] at HLT
    clear h hg hu hl
    go_enter Try.func13, Try.ntmps13
    go_wp2_with (first
      | (go_at_call 52; refine (HLT.out _ S0.out.below).mono ?_; rintro e w1 ⟨rfl, hb⟩; have S1 := Lib.hid (S0.out.more hb); clear hb)
      | (go_at_call 53; refine (known18 _).mono ?_; rintro e w2 ⟨rfl, hb⟩; have S2 := Lib.hid (S1.out.more hb); clear hb))
    go_ret
    exact ⟨rfl, S2.out.below⟩
  rw [hl] at HLT
  have hL := litT_spec hl
  have hGA : GraphAt w (.agg #[.slice sa g.S.length sc, .slice aa g.A.length ac, .slice ta g.T.length tc]) g := hg.small (by omega) (by omega) (by omega)
  have hn : nodesN g ≤ 100000 := by have := nodes_len (g := g); omega
  have hS : g.S.length ≤ 100000 := by omega
  have HW := Lib.hid (fun (w' : World) (hb : Below w.heap.size w w') => weak_ok _ _ g en ag w' (hGA.below hb) (hu.below hb) hn)
  have HRW := Lib.hid (fun (w' : World) (hb : Below w.heap.size w w') => rweak_ok _ _ g en ag w' (hGA.below hb) (hu.below hb) hn)
  have HS := Lib.hid (fun (w' : World) (hb : Below w.heap.size w w') => strong_ok _ _ g en ag w' (hGA.below hb) (hu.below hb) hn)
  have HRS := Lib.hid (fun (w' : World) (hb : Below w.heap.size w w') => rstrong_ok _ _ g en ag w' (hGA.below hb) (hu.below hb) hn hS)
  have HF := Lib.hid (fun (w' : World) (hb : Below w.heap.size w w') => find_ok _ _ g en ag mode w' (hGA.below hb) (hu.below hb) hn)
  have HRF := Lib.hid (fun (w' : World) (hb : Below w.heap.size w w') => rfind_ok _ _ g en ag mode w' (hGA.below hb) (hu.below hb) hn hS)
  have HWL : Hid ((weakL g en ag).length ≤ 1000000) := Lib.hid (weakL_len hn)
  have HSL : Hid ((strongL g en ag).length ≤ 1000000) := Lib.hid (strongL_len hS hn)
  have HFL : Hid ((findL g en ag mode).length ≤ 1000000) := Lib.hid (findL_len hS hn)
  clear h hg hu hl hL hGA hn hS
  generalize weakL g en ag = WL at *
  generalize strongL g en ag = SL at *
  generalize findL g en ag mode = FL at *
  go_enter Try.func13, Try.ntmps13
  go_wp2_with (go_at_call 52; refine (HLT.out _ S0.out.below).mono ?_; rintro e w1 ⟨rfl, hb⟩; have S1 := Lib.hid (S0.out.more hb); clear hb)
  have c0 := cell_of_block S1.out.blk 0 _ rfl
  have c1 := cell_of_block S1.out.blk 1 _ rfl
  have c2 := cell_of_block S1.out.blk 2 _ rfl
  have c3 := cell_of_block S1.out.blk 3 _ rfl
  have c4 := cell_of_block S1.out.blk 4 _ rfl
  refine region_rel (fun q => match q with | 4 => .bool false | _ => undef)
    (fun f => { tmps := #[.agg #[.slice sa g.S.length sc, .slice aa g.A.length ac, .slice ta g.T.length tc, .slice ua en.length uc, .int .i64 ag], .int .i64 mode, .pointer (some ⟨w.heap.size, 0, none⟩), undef, f 4, .agg #[.slice sa g.S.length sc, .slice aa g.A.length ac, .slice ta g.T.length tc, .slice ua en.length uc, .int .i64 ag], .bool true, .bool false, undef, f 9, f 10, f 11, f 12, f 13, f 14, f 15, f 16, f 17, f 18, f 19, f 20, f 21, f 22, f 23, f 24, f 25, f 26, f 27, f 28, f 29, f 30, f 31, f 32, f 33, f 34, f 35, f 36, f 37, f 38, f 39, f 40, f 41, f 42, f 43, f 44, f 45, f 46, f 47, f 48, f 49, f 50, f 51, f 52, f 53, f 54, f 55, f 56, f 57, f 58, f 59, f 60, f 61, f 62], defers := [] }) (fun j => if j = 54 then 4 else j + 9)
    (relL [.eq (.pointer (some ⟨w.heap.size, 0, none⟩)), .eq (.agg #[.slice sa g.S.length sc, .slice aa g.A.length ac, .slice ta g.T.length tc]), .eq (.pointer (some ⟨w.heap.size, 3, none⟩)), .eq (.slice ua en.length uc), .eq (.pointer (some ⟨w.heap.size, 4, none⟩)), .eq (.int .i64 ag), .ints WL, .eq (.pointer (some ⟨w.heap.size, 0, none⟩)), .eq (.agg #[.slice sa g.S.length sc, .slice aa g.A.length ac, .slice ta g.T.length tc]), .eq (.pointer (some ⟨w.heap.size, 3, none⟩)), .eq (.slice ua en.length uc), .eq (.pointer (some ⟨w.heap.size, 4, none⟩)), .eq (.int .i64 ag), .ints WL, .eq (.bool true), .eq (.bool true), .eq (.pointer (some ⟨w.heap.size, 0, none⟩)), .eq (.agg #[.slice sa g.S.length sc, .slice aa g.A.length ac, .slice ta g.T.length tc]), .eq (.pointer (some ⟨w.heap.size, 3, none⟩)), .eq (.slice ua en.length uc), .eq (.pointer (some ⟨w.heap.size, 4, none⟩)), .eq (.int .i64 ag), .ints SL, .eq (.pointer (some ⟨w.heap.size, 0, none⟩)), .eq (.agg #[.slice sa g.S.length sc, .slice aa g.A.length ac, .slice ta g.T.length tc]), .eq (.pointer (some ⟨w.heap.size, 3, none⟩)), .eq (.slice ua en.length uc), .eq (.pointer (some ⟨w.heap.size, 4, none⟩)), .eq (.int .i64 ag), .ints SL, .eq (.bool true), .eq (.bool true), .eq (.bool true), .eq (.pointer (some ⟨w.heap.size, 0, none⟩)), .eq (.agg #[.slice sa g.S.length sc, .slice aa g.A.length ac, .slice ta g.T.length tc]), .eq (.pointer (some ⟨w.heap.size, 3, none⟩)), .eq (.slice ua en.length uc), .eq (.pointer (some ⟨w.heap.size, 4, none⟩)), .eq (.int .i64 ag), .eq (.int .i64 mode), .ints FL, .eq (.pointer (some ⟨w.heap.size, 0, none⟩)), .eq (.agg #[.slice sa g.S.length sc, .slice aa g.A.length ac, .slice ta g.T.length tc]), .eq (.pointer (some ⟨w.heap.size, 3, none⟩)), .eq (.slice ua en.length uc), .eq (.pointer (some ⟨w.heap.size, 4, none⟩)), .eq (.int .i64 ag), .eq (.int .i64 mode), .ints FL, .eq (.bool true), .eq (.bool true), .eq (.bool true), .eq (.bool true), .eq (.bool true), .eq (.bool true)])
    rfl (by kernel_rfl) (fun i u w w' hb h => RK.mono _ hb h) (by kernel_rfl) (by kernel_rfl) ?_ ?_ ?_
  · intro j hj f v
    rcases j with _ | _ | _ | _ | _ | _ | _ | _ | _ | _ | _ | _ | _ | _ | _ | _ | _ | _ | _ | _ | _ | _ | _ | _ | _ | _ | _ | _ | _ | _ | _ | _ | _ | _ | _ | _ | _ | _ | _ | _ | _ | _ | _ | _ | _ | _ | _ | _ | _ | _ | _ | _ | _ | _ | _ | j
    all_goals first | rfl | (simp at hj; omega)
  · refine ⟨?_, ?_, ?_, ?_, ?_, ?_, ?_, ?_, ?_, ?_, ?_, ?_, ?_, ?_, ?_, ?_, ?_, ?_, ?_, ?_, ?_, ?_, ?_, ?_, ?_, ?_, ?_, ?_, ?_, ?_, ?_, ?_, ?_, ?_, ?_, ?_, ?_, ?_, ?_, ?_, ?_, ?_, ?_, ?_, ?_, ?_, ?_, ?_, ?_, ?_, ?_, ?_, ?_, ?_, ?_, trivial⟩
    · intro f w' hb hd K hK
      dsimp only
      go_simp
      exact hK (.pointer (some ⟨w.heap.size, 0, none⟩)) w' (Below.refl _ _) rfl
    · intro f w' hb hd K hK
      have h0 : f 9 = (.pointer (some ⟨w.heap.size, 0, none⟩)) := hd 0 (by kernel_rfl)
      have e0 := bkeep hb c0
      have e1 := bkeep hb c1
      have e2 := bkeep hb c2
      dsimp only
      go_simp
      have q := hK (.agg #[.slice sa g.S.length sc, .slice aa g.A.length ac, .slice ta g.T.length tc]) w' (Below.refl _ _) rfl
      simp only [h0] at q
      exact q
    · intro f w' hb hd K hK
      dsimp only
      go_simp
      exact hK (.pointer (some ⟨w.heap.size, 3, none⟩)) w' (Below.refl _ _) rfl
    · intro f w' hb hd K hK
      have h0 : f 11 = (.pointer (some ⟨w.heap.size, 3, none⟩)) := hd 2 (by kernel_rfl)
      have e0 := bkeep hb c3
      dsimp only
      go_simp
      have q := hK (.slice ua en.length uc) w' (Below.refl _ _) rfl
      simp only [h0] at q
      exact q
    · intro f w' hb hd K hK
      dsimp only
      go_simp
      exact hK (.pointer (some ⟨w.heap.size, 4, none⟩)) w' (Below.refl _ _) rfl
    · intro f w' hb hd K hK
      have h0 : f 13 = (.pointer (some ⟨w.heap.size, 4, none⟩)) := hd 4 (by kernel_rfl)
      have e0 := bkeep hb c4
      dsimp only
      go_simp
      have q := hK (.int .i64 ag) w' (Below.refl _ _) rfl
      simp only [h0] at q
      exact q
    · intro f w' hb hd K hK
      have h0 : f 10 = (.agg #[.slice sa g.S.length sc, .slice aa g.A.length ac, .slice ta g.T.length tc]) := hd 1 (by kernel_rfl)
      have h1 : f 12 = (.slice ua en.length uc) := hd 3 (by kernel_rfl)
      have h2 : f 14 = (.int .i64 ag) := hd 5 (by kernel_rfl)
      have HO := Lib.hid (HW.out w' (S1.out.more ((Below.refl _ w1).drew.trans hb)).below)
      dsimp only
      go_simp
      go_wp2_with (go_at_call 54; refine HO.out.mono ?_; rintro e w2 ⟨lv, rfl, hE, hb2⟩)
      have q := hK lv w2 hb2 hE
      simp only [h0, h1, h2] at q
      exact q
    · intro f w' hb hd K hK
      dsimp only
      go_simp
      exact hK (.pointer (some ⟨w.heap.size, 0, none⟩)) w' (Below.refl _ _) rfl
    · intro f w' hb hd K hK
      have h0 : f 16 = (.pointer (some ⟨w.heap.size, 0, none⟩)) := hd 7 (by kernel_rfl)
      have e0 := bkeep hb c0
      have e1 := bkeep hb c1
      have e2 := bkeep hb c2
      dsimp only
      go_simp
      have q := hK (.agg #[.slice sa g.S.length sc, .slice aa g.A.length ac, .slice ta g.T.length tc]) w' (Below.refl _ _) rfl
      simp only [h0] at q
      exact q
    · intro f w' hb hd K hK
      dsimp only
      go_simp
      exact hK (.pointer (some ⟨w.heap.size, 3, none⟩)) w' (Below.refl _ _) rfl
    · intro f w' hb hd K hK
      have h0 : f 18 = (.pointer (some ⟨w.heap.size, 3, none⟩)) := hd 9 (by kernel_rfl)
      have e0 := bkeep hb c3
      dsimp only
      go_simp
      have q := hK (.slice ua en.length uc) w' (Below.refl _ _) rfl
      simp only [h0] at q
      exact q
    · intro f w' hb hd K hK
      dsimp only
      go_simp
      exact hK (.pointer (some ⟨w.heap.size, 4, none⟩)) w' (Below.refl _ _) rfl
    · intro f w' hb hd K hK
      have h0 : f 20 = (.pointer (some ⟨w.heap.size, 4, none⟩)) := hd 11 (by kernel_rfl)
      have e0 := bkeep hb c4
      dsimp only
      go_simp
      have q := hK (.int .i64 ag) w' (Below.refl _ _) rfl
      simp only [h0] at q
      exact q
    · intro f w' hb hd K hK
      have h0 : f 17 = (.agg #[.slice sa g.S.length sc, .slice aa g.A.length ac, .slice ta g.T.length tc]) := hd 8 (by kernel_rfl)
      have h1 : f 19 = (.slice ua en.length uc) := hd 10 (by kernel_rfl)
      have h2 : f 21 = (.int .i64 ag) := hd 12 (by kernel_rfl)
      have HO := Lib.hid (HRW.out w' (S1.out.more ((Below.refl _ w1).drew.trans hb)).below)
      dsimp only
      go_simp
      go_wp2_with (go_at_call 55; refine HO.out.mono ?_; rintro e w2 ⟨lv, rfl, hE, hb2⟩)
      have q := hK lv w2 hb2 hE
      simp only [h0, h1, h2] at q
      exact q
    · intro f w' hb hd K hK
      have r0 : IntsAt w' (f 15) WL := hd 6 (by kernel_rfl)
      have r1 : IntsAt w' (f 22) WL := hd 13 (by kernel_rfl)
      have HO := Lib.hid (ints_same _ _ _ w' r0 r1 HWL.out)
      clear r0 r1
      dsimp only
      go_simp
      go_wp2_with (go_at_call 42; refine HO.out.mono ?_; rintro e w2 ⟨rfl, hb2⟩)
      exact hK (.bool true) w2 hb2 rfl
    · intro f w' hb hd K hK
      have h0 : f 23 = (.bool true) := hd 14 (by kernel_rfl)
      dsimp only
      go_simp
      have q := hK (.bool true) w' (Below.refl _ _) rfl
      simp only [h0] at q
      exact q
    · intro f w' hb hd K hK
      have hg : f 24 = .bool true := hd 15 (by kernel_rfl)
      dsimp only
      go_simp
      have q := hK (.pointer (some ⟨w.heap.size, 0, none⟩)) w' (Below.refl _ _) rfl
      simp only [hg] at q
      exact q
    · intro f w' hb hd K hK
      have hg : f 24 = .bool true := hd 15 (by kernel_rfl)
      have h0 : f 25 = (.pointer (some ⟨w.heap.size, 0, none⟩)) := hd 16 (by kernel_rfl)
      have e0 := bkeep hb c0
      have e1 := bkeep hb c1
      have e2 := bkeep hb c2
      dsimp only
      go_simp
      have q := hK (.agg #[.slice sa g.S.length sc, .slice aa g.A.length ac, .slice ta g.T.length tc]) w' (Below.refl _ _) rfl
      simp only [hg, h0] at q
      exact q
    · intro f w' hb hd K hK
      have hg : f 24 = .bool true := hd 15 (by kernel_rfl)
      dsimp only
      go_simp
      have q := hK (.pointer (some ⟨w.heap.size, 3, none⟩)) w' (Below.refl _ _) rfl
      simp only [hg] at q
      exact q
    · intro f w' hb hd K hK
      have hg : f 24 = .bool true := hd 15 (by kernel_rfl)
      have h0 : f 27 = (.pointer (some ⟨w.heap.size, 3, none⟩)) := hd 18 (by kernel_rfl)
      have e0 := bkeep hb c3
      dsimp only
      go_simp
      have q := hK (.slice ua en.length uc) w' (Below.refl _ _) rfl
      simp only [hg, h0] at q
      exact q
    · intro f w' hb hd K hK
      have hg : f 24 = .bool true := hd 15 (by kernel_rfl)
      dsimp only
      go_simp
      have q := hK (.pointer (some ⟨w.heap.size, 4, none⟩)) w' (Below.refl _ _) rfl
      simp only [hg] at q
      exact q
    · intro f w' hb hd K hK
      have hg : f 24 = .bool true := hd 15 (by kernel_rfl)
      have h0 : f 29 = (.pointer (some ⟨w.heap.size, 4, none⟩)) := hd 20 (by kernel_rfl)
      have e0 := bkeep hb c4
      dsimp only
      go_simp
      have q := hK (.int .i64 ag) w' (Below.refl _ _) rfl
      simp only [hg, h0] at q
      exact q
    · intro f w' hb hd K hK
      have hg : f 24 = .bool true := hd 15 (by kernel_rfl)
      have h0 : f 26 = (.agg #[.slice sa g.S.length sc, .slice aa g.A.length ac, .slice ta g.T.length tc]) := hd 17 (by kernel_rfl)
      have h1 : f 28 = (.slice ua en.length uc) := hd 19 (by kernel_rfl)
      have h2 : f 30 = (.int .i64 ag) := hd 21 (by kernel_rfl)
      have HO := Lib.hid (HS.out w' (S1.out.more ((Below.refl _ w1).drew.trans hb)).below)
      dsimp only
      go_simp
      go_wp2_with (go_at_call 56; refine HO.out.mono ?_; rintro e w2 ⟨lv, rfl, hE, hb2⟩)
      have q := hK lv w2 hb2 hE
      simp only [hg, h0, h1, h2] at q
      exact q
    · intro f w' hb hd K hK
      have hg : f 24 = .bool true := hd 15 (by kernel_rfl)
      dsimp only
      go_simp
      have q := hK (.pointer (some ⟨w.heap.size, 0, none⟩)) w' (Below.refl _ _) rfl
      simp only [hg] at q
      exact q
    · intro f w' hb hd K hK
      have hg : f 24 = .bool true := hd 15 (by kernel_rfl)
      have h0 : f 32 = (.pointer (some ⟨w.heap.size, 0, none⟩)) := hd 23 (by kernel_rfl)
      have e0 := bkeep hb c0
      have e1 := bkeep hb c1
      have e2 := bkeep hb c2
      dsimp only
      go_simp
      have q := hK (.agg #[.slice sa g.S.length sc, .slice aa g.A.length ac, .slice ta g.T.length tc]) w' (Below.refl _ _) rfl
      simp only [hg, h0] at q
      exact q
    · intro f w' hb hd K hK
      have hg : f 24 = .bool true := hd 15 (by kernel_rfl)
      dsimp only
      go_simp
      have q := hK (.pointer (some ⟨w.heap.size, 3, none⟩)) w' (Below.refl _ _) rfl
      simp only [hg] at q
      exact q
    · intro f w' hb hd K hK
      have hg : f 24 = .bool true := hd 15 (by kernel_rfl)
      have h0 : f 34 = (.pointer (some ⟨w.heap.size, 3, none⟩)) := hd 25 (by kernel_rfl)
      have e0 := bkeep hb c3
      dsimp only
      go_simp
      have q := hK (.slice ua en.length uc) w' (Below.refl _ _) rfl
      simp only [hg, h0] at q
      exact q
    · intro f w' hb hd K hK
      have hg : f 24 = .bool true := hd 15 (by kernel_rfl)
      dsimp only
      go_simp
      have q := hK (.pointer (some ⟨w.heap.size, 4, none⟩)) w' (Below.refl _ _) rfl
      simp only [hg] at q
      exact q
    · intro f w' hb hd K hK
      have hg : f 24 = .bool true := hd 15 (by kernel_rfl)
      have h0 : f 36 = (.pointer (some ⟨w.heap.size, 4, none⟩)) := hd 27 (by kernel_rfl)
      have e0 := bkeep hb c4
      dsimp only
      go_simp
      have q := hK (.int .i64 ag) w' (Below.refl _ _) rfl
      simp only [hg, h0] at q
      exact q
    · intro f w' hb hd K hK
      have hg : f 24 = .bool true := hd 15 (by kernel_rfl)
      have h0 : f 33 = (.agg #[.slice sa g.S.length sc, .slice aa g.A.length ac, .slice ta g.T.length tc]) := hd 24 (by kernel_rfl)
      have h1 : f 35 = (.slice ua en.length uc) := hd 26 (by kernel_rfl)
      have h2 : f 37 = (.int .i64 ag) := hd 28 (by kernel_rfl)
      have HO := Lib.hid (HRS.out w' (S1.out.more ((Below.refl _ w1).drew.trans hb)).below)
      dsimp only
      go_simp
      go_wp2_with (go_at_call 57; refine HO.out.mono ?_; rintro e w2 ⟨lv, rfl, hE, hb2⟩)
      have q := hK lv w2 hb2 hE
      simp only [hg, h0, h1, h2] at q
      exact q
    · intro f w' hb hd K hK
      have hg : f 24 = .bool true := hd 15 (by kernel_rfl)
      have r0 : IntsAt w' (f 31) SL := hd 22 (by kernel_rfl)
      have r1 : IntsAt w' (f 38) SL := hd 29 (by kernel_rfl)
      have HO := Lib.hid (ints_same _ _ _ w' r0 r1 HSL.out)
      clear r0 r1
      dsimp only
      go_simp
      go_wp2_with (go_at_call 42; refine HO.out.mono ?_; rintro e w2 ⟨rfl, hb2⟩)
      have q := hK (.bool true) w2 hb2 rfl
      simp only [hg] at q
      exact q
    · intro f w' hb hd K hK
      have h0 : f 24 = (.bool true) := hd 15 (by kernel_rfl)
      have h1 : f 39 = (.bool true) := hd 30 (by kernel_rfl)
      dsimp only
      go_simp
      have q := hK (.bool true) w' (Below.refl _ _) rfl
      simp only [h0, h1] at q
      exact q
    · intro f w' hb hd K hK
      have h0 : f 40 = (.bool true) := hd 31 (by kernel_rfl)
      dsimp only
      go_simp
      have q := hK (.bool true) w' (Below.refl _ _) rfl
      simp only [h0] at q
      exact q
    · intro f w' hb hd K hK
      have hg : f 41 = .bool true := hd 32 (by kernel_rfl)
      dsimp only
      go_simp
      have q := hK (.pointer (some ⟨w.heap.size, 0, none⟩)) w' (Below.refl _ _) rfl
      simp only [hg] at q
      exact q
    · intro f w' hb hd K hK
      have hg : f 41 = .bool true := hd 32 (by kernel_rfl)
      have h0 : f 42 = (.pointer (some ⟨w.heap.size, 0, none⟩)) := hd 33 (by kernel_rfl)
      have e0 := bkeep hb c0
      have e1 := bkeep hb c1
      have e2 := bkeep hb c2
      dsimp only
      go_simp
      have q := hK (.agg #[.slice sa g.S.length sc, .slice aa g.A.length ac, .slice ta g.T.length tc]) w' (Below.refl _ _) rfl
      simp only [hg, h0] at q
      exact q
    · intro f w' hb hd K hK
      have hg : f 41 = .bool true := hd 32 (by kernel_rfl)
      dsimp only
      go_simp
      have q := hK (.pointer (some ⟨w.heap.size, 3, none⟩)) w' (Below.refl _ _) rfl
      simp only [hg] at q
      exact q
    · intro f w' hb hd K hK
      have hg : f 41 = .bool true := hd 32 (by kernel_rfl)
      have h0 : f 44 = (.pointer (some ⟨w.heap.size, 3, none⟩)) := hd 35 (by kernel_rfl)
      have e0 := bkeep hb c3
      dsimp only
      go_simp
      have q := hK (.slice ua en.length uc) w' (Below.refl _ _) rfl
      simp only [hg, h0] at q
      exact q
    · intro f w' hb hd K hK
      have hg : f 41 = .bool true := hd 32 (by kernel_rfl)
      dsimp only
      go_simp
      have q := hK (.pointer (some ⟨w.heap.size, 4, none⟩)) w' (Below.refl _ _) rfl
      simp only [hg] at q
      exact q
    · intro f w' hb hd K hK
      have hg : f 41 = .bool true := hd 32 (by kernel_rfl)
      have h0 : f 46 = (.pointer (some ⟨w.heap.size, 4, none⟩)) := hd 37 (by kernel_rfl)
      have e0 := bkeep hb c4
      dsimp only
      go_simp
      have q := hK (.int .i64 ag) w' (Below.refl _ _) rfl
      simp only [hg, h0] at q
      exact q
    · intro f w' hb hd K hK
      have hg : f 41 = .bool true := hd 32 (by kernel_rfl)
      dsimp only
      go_simp
      have q := hK (.int .i64 mode) w' (Below.refl _ _) rfl
      simp only [hg] at q
      exact q
    · intro f w' hb hd K hK
      have hg : f 41 = .bool true := hd 32 (by kernel_rfl)
      have h0 : f 43 = (.agg #[.slice sa g.S.length sc, .slice aa g.A.length ac, .slice ta g.T.length tc]) := hd 34 (by kernel_rfl)
      have h1 : f 45 = (.slice ua en.length uc) := hd 36 (by kernel_rfl)
      have h2 : f 47 = (.int .i64 ag) := hd 38 (by kernel_rfl)
      have h3 : f 48 = (.int .i64 mode) := hd 39 (by kernel_rfl)
      have HO := Lib.hid (HF.out w' (S1.out.more ((Below.refl _ w1).drew.trans hb)).below)
      dsimp only
      go_simp
      go_wp2_with (go_at_call 58; refine HO.out.mono ?_; rintro e w2 ⟨lv, rfl, hE, hb2⟩)
      have q := hK lv w2 hb2 hE
      simp only [hg, h0, h1, h2, h3] at q
      exact q
    · intro f w' hb hd K hK
      have hg : f 41 = .bool true := hd 32 (by kernel_rfl)
      dsimp only
      go_simp
      have q := hK (.pointer (some ⟨w.heap.size, 0, none⟩)) w' (Below.refl _ _) rfl
      simp only [hg] at q
      exact q
    · intro f w' hb hd K hK
      have hg : f 41 = .bool true := hd 32 (by kernel_rfl)
      have h0 : f 50 = (.pointer (some ⟨w.heap.size, 0, none⟩)) := hd 41 (by kernel_rfl)
      have e0 := bkeep hb c0
      have e1 := bkeep hb c1
      have e2 := bkeep hb c2
      dsimp only
      go_simp
      have q := hK (.agg #[.slice sa g.S.length sc, .slice aa g.A.length ac, .slice ta g.T.length tc]) w' (Below.refl _ _) rfl
      simp only [hg, h0] at q
      exact q
    · intro f w' hb hd K hK
      have hg : f 41 = .bool true := hd 32 (by kernel_rfl)
      dsimp only
      go_simp
      have q := hK (.pointer (some ⟨w.heap.size, 3, none⟩)) w' (Below.refl _ _) rfl
      simp only [hg] at q
      exact q
    · intro f w' hb hd K hK
      have hg : f 41 = .bool true := hd 32 (by kernel_rfl)
      have h0 : f 52 = (.pointer (some ⟨w.heap.size, 3, none⟩)) := hd 43 (by kernel_rfl)
      have e0 := bkeep hb c3
      dsimp only
      go_simp
      have q := hK (.slice ua en.length uc) w' (Below.refl _ _) rfl
      simp only [hg, h0] at q
      exact q
    · intro f w' hb hd K hK
      have hg : f 41 = .bool true := hd 32 (by kernel_rfl)
      dsimp only
      go_simp
      have q := hK (.pointer (some ⟨w.heap.size, 4, none⟩)) w' (Below.refl _ _) rfl
      simp only [hg] at q
      exact q
    · intro f w' hb hd K hK
      have hg : f 41 = .bool true := hd 32 (by kernel_rfl)
      have h0 : f 54 = (.pointer (some ⟨w.heap.size, 4, none⟩)) := hd 45 (by kernel_rfl)
      have e0 := bkeep hb c4
      dsimp only
      go_simp
      have q := hK (.int .i64 ag) w' (Below.refl _ _) rfl
      simp only [hg, h0] at q
      exact q
    · intro f w' hb hd K hK
      have hg : f 41 = .bool true := hd 32 (by kernel_rfl)
      dsimp only
      go_simp
      have q := hK (.int .i64 mode) w' (Below.refl _ _) rfl
      simp only [hg] at q
      exact q
    · intro f w' hb hd K hK
      have hg : f 41 = .bool true := hd 32 (by kernel_rfl)
      have h0 : f 51 = (.agg #[.slice sa g.S.length sc, .slice aa g.A.length ac, .slice ta g.T.length tc]) := hd 42 (by kernel_rfl)
      have h1 : f 53 = (.slice ua en.length uc) := hd 44 (by kernel_rfl)
      have h2 : f 55 = (.int .i64 ag) := hd 46 (by kernel_rfl)
      have h3 : f 56 = (.int .i64 mode) := hd 47 (by kernel_rfl)
      have HO := Lib.hid (HRF.out w' (S1.out.more ((Below.refl _ w1).drew.trans hb)).below)
      dsimp only
      go_simp
      go_wp2_with (go_at_call 59; refine HO.out.mono ?_; rintro e w2 ⟨lv, rfl, hE, hb2⟩)
      have q := hK lv w2 hb2 hE
      simp only [hg, h0, h1, h2, h3] at q
      exact q
    · intro f w' hb hd K hK
      have hg : f 41 = .bool true := hd 32 (by kernel_rfl)
      have r0 : IntsAt w' (f 49) FL := hd 40 (by kernel_rfl)
      have r1 : IntsAt w' (f 57) FL := hd 48 (by kernel_rfl)
      have HO := Lib.hid (ints_same _ _ _ w' r0 r1 HFL.out)
      clear r0 r1
      dsimp only
      go_simp
      go_wp2_with (go_at_call 42; refine HO.out.mono ?_; rintro e w2 ⟨rfl, hb2⟩)
      have q := hK (.bool true) w2 hb2 rfl
      simp only [hg] at q
      exact q
    · intro f w' hb hd K hK
      have h0 : f 41 = (.bool true) := hd 32 (by kernel_rfl)
      have h1 : f 58 = (.bool true) := hd 49 (by kernel_rfl)
      dsimp only
      go_simp
      have q := hK (.bool true) w' (Below.refl _ _) rfl
      simp only [h0, h1] at q
      exact q
    · intro f w' hb hd K hK
      have h0 : f 59 = (.bool true) := hd 50 (by kernel_rfl)
      dsimp only
      go_simp
      have q := hK (.bool true) w' (Below.refl _ _) rfl
      simp only [h0] at q
      exact q
    · intro f w' hb hd K hK
      have hg : f 60 = .bool true := hd 51 (by kernel_rfl)
      have HO := Lib.hid (known18 w')
      dsimp only
      go_simp
      go_wp2_with (go_at_call 53; refine HO.out.mono ?_; rintro e w2 ⟨rfl, hb2⟩)
      have q := hK (.bool true) w2 hb2 rfl
      simp only [hg] at q
      exact q
    · intro f w' hb hd K hK
      have h0 : f 60 = (.bool true) := hd 51 (by kernel_rfl)
      have h1 : f 61 = (.bool true) := hd 52 (by kernel_rfl)
      dsimp only
      go_simp
      have q := hK (.bool true) w' (Below.refl _ _) rfl
      simp only [h0, h1] at q
      exact q
    · intro f w' hb hd K hK
      have h0 : f 62 = (.bool true) := hd 53 (by kernel_rfl)
      dsimp only
      go_simp
      have q := hK (.bool true) w' (Below.refl _ _) rfl
      simp only [h0] at q
      exact q
  · intro f w' hb hr
    have h4 : f 4 = .bool true := hr 54 (by decide)
    have HB2 := Lib.hid (S1.out.more hb).below
    clear hr hb
    dsimp only
    rw [h4]
    generalize f 9 = x9
    generalize f 10 = x10
    generalize f 11 = x11
    generalize f 12 = x12
    generalize f 13 = x13
    generalize f 14 = x14
    generalize f 15 = x15
    generalize f 16 = x16
    generalize f 17 = x17
    generalize f 18 = x18
    generalize f 19 = x19
    generalize f 20 = x20
    generalize f 21 = x21
    generalize f 22 = x22
    generalize f 23 = x23
    generalize f 24 = x24
    generalize f 25 = x25
    generalize f 26 = x26
    generalize f 27 = x27
    generalize f 28 = x28
    generalize f 29 = x29
    generalize f 30 = x30
    generalize f 31 = x31
    generalize f 32 = x32
    generalize f 33 = x33
    generalize f 34 = x34
    generalize f 35 = x35
    generalize f 36 = x36
    generalize f 37 = x37
    generalize f 38 = x38
    generalize f 39 = x39
    generalize f 40 = x40
    generalize f 41 = x41
    generalize f 42 = x42
    generalize f 43 = x43
    generalize f 44 = x44
    generalize f 45 = x45
    generalize f 46 = x46
    generalize f 47 = x47
    generalize f 48 = x48
    generalize f 49 = x49
    generalize f 50 = x50
    generalize f 51 = x51
    generalize f 52 = x52
    generalize f 53 = x53
    generalize f 54 = x54
    generalize f 55 = x55
    generalize f 56 = x56
    generalize f 57 = x57
    generalize f 58 = x58
    generalize f 59 = x59
    generalize f 60 = x60
    generalize f 61 = x61
    generalize f 62 = x62
    go_wp2_with fail
    go_ret
    exact ⟨rfl, HB2.out⟩
end Go.Proofs.Ytnlaonppgebpoaa
