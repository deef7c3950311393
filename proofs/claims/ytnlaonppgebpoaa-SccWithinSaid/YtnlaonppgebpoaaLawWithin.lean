/-
  spinnakerlaw17.SccWithin: the walk. (Written by gen_within.py.)
-/
import Derived.Test.YtnlaonppgebpoaaLaw17
namespace Go.Proofs.Ytnlaonppgebpoaa
open Go.RowKit

set_option maxRecDepth 100000 in
set_option maxHeartbeats 16000000 in
theorem sccWithin (v u1 u2 : Value) (g : Gr) (il : List Bool) (fr : List Int) (w : World) (hG : GraphArg w v g) (hB : BoolsAt w u1 il) (hbl : il.length ≤ 9223372036854775807) (hI : IntsAt w u2 fr) (hfl : fr.length ≤ 9223372036854775807) (hfr : ∀ x ∈ fr, -9223372036854775808 ≤ x ∧ x ≤ 9223372036854775807) :
    Calls Try.prog 9 #[v, u1, u2] w fun e w' => e = .returned (.bool true) ∧ Below w.heap.size w w' := by
  obtain ⟨sa, aa, ta, sc, ac, tc, rfl⟩ := hG.var
  have HBI := Lib.hid hB
  have HFR := Lib.hid hI
  obtain ⟨ba, bc, rfl, -⟩ := hB
  obtain ⟨fa, fc, rfl, -⟩ := hI
  have hs := varst_start w #[.slice sa g.S.length sc, .slice aa g.A.length ac, .slice ta g.T.length tc]
  have HL := Lib.hid (hG.below hs.below).light
  have HS := Lib.hid hs
  have HWF : Hid (∀ x ∈ fr, (Lit.int .i64 x).wf = true) := Lib.hid (fun x hx => WalkArith.wf_i64 (hfr x hx))
  cases hlit : lit3 g.S.length g.T.length g.A.length
  · rw [hlit] at HL
    clear hG hs hlit
    go_enter Try.func9, Try.ntmps9
    go_wp2_with (first
      | (go_at_call 25; refine HL.out.mono ?_; rintro e w1 ⟨rfl, hb⟩; have S1 := Lib.hid (HS.out.more hb))
      | (go_at_call 41; refine (known17 _).mono ?_; rintro e w5 ⟨rfl, hb⟩; have S5 := Lib.hid (S1.out.more hb)))
    go_ret
    exact ⟨rfl, S5.out.below⟩
  rw [hlit] at HL
  by_cases h1 : 200 < il.length
  · have h3 : (200 : Int) < (il.length : Int) := by omega
    clear hG hs hlit
    go_enter Try.func9, Try.ntmps9
    go_wp2_with (first
      | (go_at_call 25; refine HL.out.mono ?_; rintro e w1 ⟨rfl, hb⟩; have S1 := Lib.hid (HS.out.more hb))
      | (go_at_call 41; refine (known17 _).mono ?_; rintro e w5 ⟨rfl, hb⟩; have S5 := Lib.hid (S1.out.more hb)))
    go_ret
    exact ⟨rfl, S5.out.below⟩
  have h4 : ¬ (200 : Int) < (il.length : Int) := by omega
  by_cases h2 : 100 < fr.length
  · have h3 : (100 : Int) < (fr.length : Int) := by omega
    clear hG hs hlit
    go_enter Try.func9, Try.ntmps9
    go_wp2_with (first
      | (go_at_call 25; refine HL.out.mono ?_; rintro e w1 ⟨rfl, hb⟩; have S1 := Lib.hid (HS.out.more hb))
      | (go_at_call 41; refine (known17 _).mono ?_; rintro e w5 ⟨rfl, hb⟩; have S5 := Lib.hid (S1.out.more hb)))
    go_ret
    exact ⟨rfl, S5.out.below⟩
  have hAt := hG.at hlit
  have h5 : ¬ (100 : Int) < (fr.length : Int) := by omega
  have HAT := Lib.hid hAt
  have HFL : Hid (fr.length ≤ 1000000) := Lib.hid (by omega)
  have HIL : Hid (il.length ≤ 1000000) := Lib.hid (by omega)
  have HWL : Hid ((withinI g il).length ≤ 1000000 ∧ ∀ r ∈ withinI g il, r.length ≤ 1000000) := Lib.hid (by
    obtain ⟨h1, h2⟩ := grpI_len (partsI (keepG g il)) (fun i => il.getD i false)
    have h3 := keep_nodes g il
    rw [partsI_len] at h1 h2
    exact ⟨Nat.le_trans h1 (by omega), fun r hr => Nat.le_trans (h2 r hr) (by omega)⟩)
  clear hG hs hlit hAt
  go_enter Try.func9, Try.ntmps9
  go_wp2_with (first
    | (go_at_call 25; refine HL.out.mono ?_; rintro e w1 ⟨rfl, hb⟩; have S1 := Lib.hid (HS.out.more hb); have c0 := cell_of_block S1.out.vg 0 _ rfl; have c1 := cell_of_block S1.out.vg 1 _ rfl; have c2 := cell_of_block S1.out.vg 2 _ rfl; clear hb))
  refine region_rel (fun q => if q = 6 then .bool false else undef)
    (fun f => { tmps := #[(.agg #[.slice sa g.S.length sc, .slice aa g.A.length ac, .slice ta g.T.length tc]), .slice ba il.length bc, .slice fa fr.length fc, .pointer (some ⟨w.heap.size, 0, none⟩), undef, undef, f 6, (.agg #[.slice sa g.S.length sc, .slice aa g.A.length ac, .slice ta g.T.length tc]), .bool true, .bool false, .bool false, .slice ba il.length bc, .int .i64 (il.length : Nat), .bool (decide ((200 : Int) < (il.length : Nat))), .bool (decide ((200 : Int) < (il.length : Nat))), .bool (decide ((200 : Int) < (il.length : Nat))), .slice fa fr.length fc, .int .i64 (fr.length : Nat), .bool (decide ((100 : Int) < (fr.length : Nat))), .bool (decide ((200 : Int) < (il.length : Nat)) || decide ((100 : Int) < (fr.length : Nat))), undef, f 21, f 22, f 23, f 24, f 25, f 26, f 27, f 28, f 29, f 30, f 31, f 32, f 33, f 34, f 35, f 36, f 37, f 38, f 39], defers := [] }) (fun j => if j = 19 then 6 else j + 21)
    (relL3 [.eq (.agg #[.slice sa g.S.length sc, .slice aa g.A.length ac, .slice ta g.T.length tc]), .eq (.slice ba il.length bc), .rows (withinI g il), .eq (.agg #[.slice sa g.S.length sc, .slice aa g.A.length ac, .slice ta g.T.length tc]), .eq (.slice ba il.length bc), .rows (withinI g il), .eq (.bool true), .eq (.bool true), .eq (.agg #[.slice sa g.S.length sc, .slice aa g.A.length ac, .slice ta g.T.length tc]), .eq (.slice fa fr.length fc), .eq (.bool (cycB g fr)), .eq (.agg #[.slice sa g.S.length sc, .slice aa g.A.length ac, .slice ta g.T.length tc]), .eq (.slice fa fr.length fc), .eq (.bool (cycB g fr)), .eq (.bool true), .eq (.bool true), .eq (.bool true), .eq (.bool true), .eq (.bool true), .eq (.bool true)])
    rfl (by kernel_rfl) (fun i u w w' hb h => RK3.mono _ hb h) (by kernel_rfl) (by kernel_rfl) ?_ ?_ ?_
  · intro j hj f v
    rcases j with _ | _ | _ | _ | _ | _ | _ | _ | _ | _ | _ | _ | _ | _ | _ | _ | _ | _ | _ | _ | j
    all_goals first | rfl | (simp at hj; omega)
  · refine ⟨?_, ?_, ?_, ?_, ?_, ?_, ?_, ?_, ?_, ?_, ?_, ?_, ?_, ?_, ?_, ?_, ?_, ?_, ?_, ?_, trivial⟩
    · intro f w' hb hd K hK
      have e0 := bkeep hb c0
      have e1 := bkeep hb c1
      have e2 := bkeep hb c2
      dsimp only
      go_simp
      exact hK (.agg #[.slice sa g.S.length sc, .slice aa g.A.length ac, .slice ta g.T.length tc]) w' (Below.refl _ _) rfl
    · intro f w' hb hd K hK
      dsimp only
      go_simp
      exact hK (.slice ba il.length bc) w' (Below.refl _ _) rfl
    · intro f w' hb hd K hK
      have h0 : f 21 = (.agg #[.slice sa g.S.length sc, .slice aa g.A.length ac, .slice ta g.T.length tc]) := hd 0 (by kernel_rfl)
      have h1 : f 22 = (.slice ba il.length bc) := hd 1 (by kernel_rfl)
      have HO := Lib.hid (withinF_ok _ _ g il w' (HAT.out.below (S1.out.drew.more hb).below) (HBI.out.below (S1.out.drew.more hb).below) HIL.out)
      dsimp only
      go_simp
      go_wp2_with (go_at_call 48; refine HO.out.mono ?_; rintro e w2 ⟨lv, rfl, hE, hb2⟩)
      have q := hK lv w2 hb2 hE
      simp only [h0, h1] at q
      exact q
    · intro f w' hb hd K hK
      have e0 := bkeep hb c0
      have e1 := bkeep hb c1
      have e2 := bkeep hb c2
      dsimp only
      go_simp
      exact hK (.agg #[.slice sa g.S.length sc, .slice aa g.A.length ac, .slice ta g.T.length tc]) w' (Below.refl _ _) rfl
    · intro f w' hb hd K hK
      dsimp only
      go_simp
      exact hK (.slice ba il.length bc) w' (Below.refl _ _) rfl
    · intro f w' hb hd K hK
      have h0 : f 24 = (.agg #[.slice sa g.S.length sc, .slice aa g.A.length ac, .slice ta g.T.length tc]) := hd 3 (by kernel_rfl)
      have h1 : f 25 = (.slice ba il.length bc) := hd 4 (by kernel_rfl)
      have HO := Lib.hid (rwithin_back _ _ g il w' (HAT.out.below (S1.out.drew.more hb).below) (HBI.out.below (S1.out.drew.more hb).below) HIL.out)
      dsimp only
      go_simp
      go_wp2_with (go_at_call 49; refine HO.out.mono ?_; rintro e w2 ⟨lv, rfl, hE, hb2⟩)
      have q := hK lv w2 hb2 hE
      simp only [h0, h1] at q
      exact q
    · intro f w' hb hd K hK
      have h0 : RowsAt w' (f 23) (withinI g il) := hd 2 (by kernel_rfl)
      have h1 : RowsAt w' (f 26) (withinI g il) := hd 5 (by kernel_rfl)
      have HO := Lib.hid (rows_same _ _ _ w' h0 h1 HWL.out.1 HWL.out.2)
      clear h0 h1
      dsimp only
      go_simp
      go_wp2_with (go_at_call 45; refine HO.out.mono ?_; rintro e w2 ⟨rfl, hb2⟩)
      exact hK (.bool true) w2 hb2 rfl
    · intro f w' hb hd K hK
      have h0 : f 27 = (.bool true) := hd 6 (by kernel_rfl)
      dsimp only
      go_simp
      have q := hK (.bool true) w' (Below.refl _ _) rfl
      simp only [h0] at q
      exact q
    · intro f w' hb hd K hK
      have hg : f 28 = .bool true := hd 7 (by kernel_rfl)
      have e0 := bkeep hb c0
      have e1 := bkeep hb c1
      have e2 := bkeep hb c2
      dsimp only
      go_simp
      have q := hK (.agg #[.slice sa g.S.length sc, .slice aa g.A.length ac, .slice ta g.T.length tc]) w' (Below.refl _ _) rfl
      simp only [hg] at q
      exact q
    · intro f w' hb hd K hK
      have hg : f 28 = .bool true := hd 7 (by kernel_rfl)
      dsimp only
      go_simp
      have q := hK (.slice fa fr.length fc) w' (Below.refl _ _) rfl
      simp only [hg] at q
      exact q
    · intro f w' hb hd K hK
      have hg : f 28 = .bool true := hd 7 (by kernel_rfl)
      have h0 : f 29 = (.agg #[.slice sa g.S.length sc, .slice aa g.A.length ac, .slice ta g.T.length tc]) := hd 8 (by kernel_rfl)
      have h1 : f 30 = (.slice fa fr.length fc) := hd 9 (by kernel_rfl)
      have HO := Lib.hid (cyc_ok _ _ g fr w' (HAT.out.below (S1.out.drew.more hb).below) (HFR.out.below (S1.out.drew.more hb).below) HWF.out HFL.out)
      dsimp only
      go_simp
      go_wp2_with (go_at_call 50; refine HO.out.mono ?_; rintro e w2 ⟨rfl, hb2⟩)
      have q := hK (.bool (cycB g fr)) w2 hb2 rfl
      simp only [hg, h0, h1] at q
      exact q
    · intro f w' hb hd K hK
      have hg : f 28 = .bool true := hd 7 (by kernel_rfl)
      have e0 := bkeep hb c0
      have e1 := bkeep hb c1
      have e2 := bkeep hb c2
      dsimp only
      go_simp
      have q := hK (.agg #[.slice sa g.S.length sc, .slice aa g.A.length ac, .slice ta g.T.length tc]) w' (Below.refl _ _) rfl
      simp only [hg] at q
      exact q
    · intro f w' hb hd K hK
      have hg : f 28 = .bool true := hd 7 (by kernel_rfl)
      dsimp only
      go_simp
      have q := hK (.slice fa fr.length fc) w' (Below.refl _ _) rfl
      simp only [hg] at q
      exact q
    · intro f w' hb hd K hK
      have hg : f 28 = .bool true := hd 7 (by kernel_rfl)
      have h0 : f 32 = (.agg #[.slice sa g.S.length sc, .slice aa g.A.length ac, .slice ta g.T.length tc]) := hd 11 (by kernel_rfl)
      have h1 : f 33 = (.slice fa fr.length fc) := hd 12 (by kernel_rfl)
      have HO := Lib.hid (rcyc_ok _ _ g fr w' (HAT.out.below (S1.out.drew.more hb).below) (HFR.out.below (S1.out.drew.more hb).below) HFL.out)
      dsimp only
      go_simp
      go_wp2_with (go_at_call 51; refine HO.out.mono ?_; rintro e w2 ⟨rfl, hb2⟩)
      have q := hK (.bool (cycB g fr)) w2 hb2 rfl
      simp only [hg, h0, h1] at q
      exact q
    · intro f w' hb hd K hK
      have hg : f 28 = .bool true := hd 7 (by kernel_rfl)
      have h0 : f 31 = (.bool (cycB g fr)) := hd 10 (by kernel_rfl)
      have h1 : f 34 = (.bool (cycB g fr)) := hd 13 (by kernel_rfl)
      dsimp only
      go_simp
      have q := hK (.bool true) w' (Below.refl _ _) rfl
      simp only [hg, h0, h1] at q
      exact q
    · intro f w' hb hd K hK
      have h0 : f 28 = (.bool true) := hd 7 (by kernel_rfl)
      have h1 : f 35 = (.bool true) := hd 14 (by kernel_rfl)
      dsimp only
      go_simp
      have q := hK (.bool true) w' (Below.refl _ _) rfl
      simp only [h0, h1] at q
      exact q
    · intro f w' hb hd K hK
      have h0 : f 36 = (.bool true) := hd 15 (by kernel_rfl)
      dsimp only
      go_simp
      have q := hK (.bool true) w' (Below.refl _ _) rfl
      simp only [h0] at q
      exact q
    · intro f w' hb hd K hK
      have hg : f 37 = .bool true := hd 16 (by kernel_rfl)
      have HO := Lib.hid (known17 w')
      dsimp only
      go_simp
      go_wp2_with (go_at_call 41; refine HO.out.mono ?_; rintro e w2 ⟨rfl, hb2⟩)
      have q := hK (.bool true) w2 hb2 rfl
      simp only [hg] at q
      exact q
    · intro f w' hb hd K hK
      have h0 : f 37 = (.bool true) := hd 16 (by kernel_rfl)
      have h1 : f 38 = (.bool true) := hd 17 (by kernel_rfl)
      dsimp only
      go_simp
      have q := hK (.bool true) w' (Below.refl _ _) rfl
      simp only [h0, h1] at q
      exact q
    · intro f w' hb hd K hK
      have h0 : f 39 = (.bool true) := hd 18 (by kernel_rfl)
      dsimp only
      go_simp
      have q := hK (.bool true) w' (Below.refl _ _) rfl
      simp only [h0] at q
      exact q
  · intro f w' hb hr
    have h2 : f 6 = .bool true := hr 19 (by decide)
    have HB2 := Lib.hid ((S1.out.more hb).below)
    clear hr hb
    (try (dsimp only))
    rw [h2]
    generalize f 21 = x21
    generalize f 22 = x22
    generalize f 23 = x23
    generalize f 24 = x24
    generalize f 25 = x25
    generalize f 26 = x26
    generalize f 27 = x27
    generalize f 28 = x28
    generalize f 29 = x29
    generalize f 30 = x30
    generalize f 31 = x31
    generalize f 32 = x32
    generalize f 33 = x33
    generalize f 34 = x34
    generalize f 35 = x35
    generalize f 36 = x36
    generalize f 37 = x37
    generalize f 38 = x38
    generalize f 39 = x39
    go_wp2_with fail
    go_ret
    exact ⟨rfl, HB2.out⟩
end Go.Proofs.Ytnlaonppgebpoaa
