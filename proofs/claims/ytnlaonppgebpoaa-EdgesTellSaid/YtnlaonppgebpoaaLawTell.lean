/-
  spinnakerlaw14.EdgesTell: the walk.
-/
import Derived.Test.YtnlaonppgebpoaaLawReach
import Derived.Test.YtnlaonppgebpoaaRKeep
import Derived.Test.YtnlaonppgebpoaaAnyRel
import Derived.Test.YtnlaonppgebpoaaParts
namespace Go.Proofs.Ytnlaonppgebpoaa
open Go.RowKit

set_option maxRecDepth 100000 in
set_option maxHeartbeats 16000000 in
theorem lawTell (v u1 u2 : Value) (g : Gr) (il : List Bool) (fr : List Int) (w : World) (hG : GraphArg w v g) (hB : BoolsAt w u1 il) (hbl : il.length ≤ 9223372036854775807) (hI : IntsAt w u2 fr) (hfl : fr.length ≤ 9223372036854775807) :
    Calls Try.prog 4 #[v, u1, u2] w fun e w' => e = .returned (.bool true) ∧ Below w.heap.size w w' := by
  obtain ⟨sa, aa, ta, sc, ac, tc, rfl⟩ := hG.var
  have HBI := Lib.hid hB
  have HFR := Lib.hid hI
  obtain ⟨ba, bc, rfl, -⟩ := hB
  obtain ⟨fa, fc, rfl, -⟩ := hI
  have hs := varst_start w #[.slice sa g.S.length sc, .slice aa g.A.length ac, .slice ta g.T.length tc]
  have HL := Lib.hid (hG.below hs.below).light
  have HS := Lib.hid hs
  cases hlit : lit3 g.S.length g.T.length g.A.length
  · rw [hlit] at HL
    clear hG hs hlit
    go_enter Try.func4, Try.ntmps4
    go_wp2_with (first
      | (go_at_call 25; refine HL.out.mono ?_; rintro e w1 ⟨rfl, hb⟩; have S1 := Lib.hid (HS.out.more hb))
      | (go_at_call 20; refine (known14 _).mono ?_; rintro e w5 ⟨rfl, hb⟩; have S5 := Lib.hid (S1.out.more hb)))
    go_ret
    exact ⟨rfl, S5.out.below⟩
  rw [hlit] at HL
  by_cases h1 : 200 < il.length
  · have h3 : (200 : Int) < (il.length : Int) := by omega
    clear hG hs hlit
    go_enter Try.func4, Try.ntmps4
    go_wp2_with (first
      | (go_at_call 25; refine HL.out.mono ?_; rintro e w1 ⟨rfl, hb⟩; have S1 := Lib.hid (HS.out.more hb))
      | (go_at_call 20; refine (known14 _).mono ?_; rintro e w5 ⟨rfl, hb⟩; have S5 := Lib.hid (S1.out.more hb)))
    go_ret
    exact ⟨rfl, S5.out.below⟩
  by_cases h2 : 200 < fr.length
  · have h3 : (200 : Int) < (fr.length : Int) := by omega
    clear hG hs hlit
    go_enter Try.func4, Try.ntmps4
    go_wp2_with (first
      | (go_at_call 25; refine HL.out.mono ?_; rintro e w1 ⟨rfl, hb⟩; have S1 := Lib.hid (HS.out.more hb))
      | (go_at_call 20; refine (known14 _).mono ?_; rintro e w5 ⟨rfl, hb⟩; have S5 := Lib.hid (S1.out.more hb)))
    go_ret
    exact ⟨rfl, S5.out.below⟩
  have hAt := hG.at hlit
  have hsz := (lit3_spec hlit).1
  have h4 : ¬ (200 : Int) < (il.length : Int) := by omega
  have h5 : ¬ (200 : Int) < (fr.length : Int) := by omega
  have HAT := Lib.hid hAt
  have HFL : Hid (fr.length ≤ 1000000) := Lib.hid (by omega)
  have HALn : Hid ((allL g).length ≤ 1000000) := Lib.hid (by cases hh : rightB g; exact (allL_not hh ▸ (by simp)); rw [allL_len ((rightB_iff g).1 hh)]; exact hAt.sT)
  have HRL : Hid ((reachL g fr).length ≤ 1000000) := Lib.hid (by cases hh : rightB g; exact (reachL_not hh fr ▸ (by simp)); rw [reachL_len ((rightB_iff g).1 hh)]; have := nodesN_right ((rightB_iff g).1 hh); omega)
  clear hG hs hlit hAt
  go_enter Try.func4, Try.ntmps4
  go_wp2_with (first
    | (go_at_call 25; refine HL.out.mono ?_; rintro e w1 ⟨rfl, hb⟩; have S1 := Lib.hid (HS.out.more hb); clear hb))
  go_loopg [7] (g.S.length + 2) (fun fu c wr => ∃ k : Nat, k + fu = g.S.length + 2 ∧ c = .int .i64 ((k : Int) - 1) ∧ Below w1.heap.size w1 wr)
  case atStart => exact ⟨0, by omega, rfl, Below.refl _ _⟩
  case round =>
    obtain ⟨k, hk, rfl, hb⟩ := hrel
    have S2 := Lib.hid (S1.out.more hb)
    have c0 := cell_of_block S2.out.vg 0 _ rfl
    have c1 := cell_of_block S2.out.vg 1 _ rfl
    have c2 := cell_of_block S2.out.vg 2 _ rfl
    have HB := Lib.hid hb
    clear hb
    by_cases hlt : k < g.S.length + 2
    · have i1 : (k : Int) - 1 ≤ (g.S.length : Int) := by omega
      have HOL : Hid ((outL g ((k : Int) - 1)).length ≤ 1000000) := Lib.hid (Nat.le_trans (outL_len g _) HAT.out.sT)
      have HOL : Hid ((outL g ((k : Int) - 1)).length ≤ 1000000) := Lib.hid (Nat.le_trans (outL_len g _) HAT.out.sT)
      go_wp2_with fail
      refine region_rel (fun q => match q with | 29 => u29 | 30 => u30 | 31 => u31 | 32 => u32 | 33 => u33 | 34 => u34 | 35 => u35 | 36 => u36 | _ => undef)
        (fun f => { tmps := #[(.agg #[.slice sa g.S.length sc, .slice aa g.A.length ac, .slice ta g.T.length tc]), .slice ba il.length bc, .slice fa fr.length fc, (.pointer (some ⟨w.heap.size, 0, none⟩)), undef, undef, u6, (.int .i64 ((k : Int) - 1)), (.agg #[.slice sa g.S.length sc, .slice aa g.A.length ac, .slice ta g.T.length tc]), .bool true, .bool false, .bool false, .slice ba il.length bc, .int .i64 (il.length : Nat), .bool (decide ((200 : Int) < (il.length : Nat))), .bool (decide ((200 : Int) < (il.length : Nat))), .bool (decide ((200 : Int) < (il.length : Nat))), .slice fa fr.length fc, .int .i64 (fr.length : Nat), .bool (decide ((200 : Int) < (fr.length : Nat))), .bool (decide ((200 : Int) < (il.length : Nat)) || decide ((200 : Int) < (fr.length : Nat))), undef, (.int .i64 ((k : Int) - 1)), (.pointer (some ⟨w.heap.size, 0, none⟩)), .slice sa g.S.length sc, .int .i64 (g.S.length : Nat), .bool true, u27, u28, f 29, f 30, f 31, f 32, f 33, f 34, f 35, f 36, undef, undef, undef, undef, undef, undef, undef, undef, undef, undef, undef, undef, undef, undef, undef, undef, undef, undef, undef, undef, undef, undef, undef, undef, undef, undef, undef, undef, undef, undef, undef, undef, undef, undef, undef, undef, undef, undef, undef, undef, undef, undef, undef, undef, undef, undef, undef], defers := [] }) (fun j => j + 29)
        (relL [.eq (.agg #[.slice sa g.S.length sc, .slice aa g.A.length ac, .slice ta g.T.length tc]), .eq (.int .i64 ((k : Int) - 1)), .edges (outL g ((k : Int) - 1)), .eq (.agg #[.slice sa g.S.length sc, .slice aa g.A.length ac, .slice ta g.T.length tc]), .eq (.int .i64 ((k : Int) - 1)), .edges (outL g ((k : Int) - 1)), .eq (.bool true), .eq (.bool false)])
        rfl (by kernel_rfl) (fun i u w w' hb h => RK.mono _ hb h) (by kernel_rfl) (by kernel_rfl) ?_ ?_ ?_
      · intro j hj f v
        rcases j with _ | _ | _ | _ | _ | _ | _ | _ | j
        all_goals first | rfl | (simp at hj; omega)
      · refine ⟨?_, ?_, ?_, ?_, ?_, ?_, ?_, ?_, trivial⟩
        · intro f w' hb hd K hK
          have e0 := bkeep hb c0
          have e1 := bkeep hb c1
          have e2 := bkeep hb c2
          dsimp only
          go_simp
          exact hK (.agg #[.slice sa g.S.length sc, .slice aa g.A.length ac, .slice ta g.T.length tc]) w' (Below.refl _ _) rfl
        · intro f w' hb hd K hK
          dsimp only
          go_simp
          exact hK (.int .i64 ((k : Int) - 1)) w' (Below.refl _ _) rfl
        · intro f w' hb hd K hK
          have h0 : f 29 = (.agg #[.slice sa g.S.length sc, .slice aa g.A.length ac, .slice ta g.T.length tc]) := hd 0 (by kernel_rfl)
          have h1 : f 30 = (.int .i64 ((k : Int) - 1)) := hd 1 (by kernel_rfl)
          have HO := Lib.hid (out_ok _ g ((k : Int) - 1) w' (HAT.out.below (S2.out.drew.more hb).below))
          dsimp only
          go_simp
          go_wp2_with (go_at_call 26; refine HO.out.mono ?_; rintro e w2 ⟨lv, rfl, hE, hb2⟩)
          have q := hK lv w2 hb2 hE
          simp only [h0, h1] at q
          exact q
        · intro f w' hb hd K hK
          have e0 := bkeep hb c0
          have e1 := bkeep hb c1
          have e2 := bkeep hb c2
          dsimp only
          go_simp
          exact hK (.agg #[.slice sa g.S.length sc, .slice aa g.A.length ac, .slice ta g.T.length tc]) w' (Below.refl _ _) rfl
        · intro f w' hb hd K hK
          dsimp only
          go_simp
          exact hK (.int .i64 ((k : Int) - 1)) w' (Below.refl _ _) rfl
        · intro f w' hb hd K hK
          have h0 : f 32 = (.agg #[.slice sa g.S.length sc, .slice aa g.A.length ac, .slice ta g.T.length tc]) := hd 3 (by kernel_rfl)
          have h1 : f 33 = (.int .i64 ((k : Int) - 1)) := hd 4 (by kernel_rfl)
          have HO := Lib.hid (rout_ok _ g ((k : Int) - 1) w' (HAT.out.below (S2.out.drew.more hb).below))
          dsimp only
          go_simp
          go_wp2_with (go_at_call 27; refine HO.out.mono ?_; rintro e w2 ⟨lv, rfl, hE, hb2⟩)
          have q := hK lv w2 hb2 hE
          simp only [h0, h1] at q
          exact q
        · intro f w' hb hd K hK
          have h0 : EdgesAt w' (f 31) (outL g ((k : Int) - 1)) := hd 2 (by kernel_rfl)
          have h1 : EdgesAt w' (f 34) (outL g ((k : Int) - 1)) := hd 5 (by kernel_rfl)
          have HO := Lib.hid (edges_same _ _ _ w' h0 h1 HOL.out)
          clear h0 h1
          dsimp only
          go_simp
          go_wp2_with (go_at_call 24; refine HO.out.mono ?_; rintro e w2 ⟨rfl, hb2⟩)
          exact hK (.bool true) w2 hb2 rfl
        · intro f w' hb hd K hK
          have h0 : f 35 = .bool true := hd 6 (by kernel_rfl)
          dsimp only
          go_simp
          have q := hK (.bool false) w' (Below.refl _ _) rfl
          simp only [h0] at q
          exact q
      · intro f w' hb hr
        have h36 : f 36 = .bool false := hr 7 (by decide)
        have HB2 := Lib.hid (HB.out.trans (hb.mono HB.out.size))
        clear hr hb
        dsimp only
        rw [h36]
        generalize f 29 = x29
        generalize f 30 = x30
        generalize f 31 = x31
        generalize f 32 = x32
        generalize f 33 = x33
        generalize f 34 = x34
        generalize f 35 = x35
        go_wp2_with fail
        clear c0 c1 c2
        go_roundg (gk - 1)
        case measure => omega
        case rel => exact ⟨k + 1, by omega, by simp, HB2.out⟩
    · have i1 : ¬ (k : Int) - 1 ≤ (g.S.length : Int) := by omega
      go_wp2_with fail
      refine region_rel (fun q => if q = 6 then u6 else undef)
        (fun f => { tmps := #[(.agg #[.slice sa g.S.length sc, .slice aa g.A.length ac, .slice ta g.T.length tc]), .slice ba il.length bc, .slice fa fr.length fc, (.pointer (some ⟨w.heap.size, 0, none⟩)), undef, undef, f 6, (.int .i64 ((k : Int) - 1)), (.agg #[.slice sa g.S.length sc, .slice aa g.A.length ac, .slice ta g.T.length tc]), .bool true, .bool false, .bool false, .slice ba il.length bc, .int .i64 (il.length : Nat), .bool (decide ((200 : Int) < (il.length : Nat))), .bool (decide ((200 : Int) < (il.length : Nat))), .bool (decide ((200 : Int) < (il.length : Nat))), .slice fa fr.length fc, .int .i64 (fr.length : Nat), .bool (decide ((200 : Int) < (fr.length : Nat))), .bool (decide ((200 : Int) < (il.length : Nat)) || decide ((200 : Int) < (fr.length : Nat))), undef, (.int .i64 ((k : Int) - 1)), (.pointer (some ⟨w.heap.size, 0, none⟩)), .slice sa g.S.length sc, .int .i64 (g.S.length : Nat), .bool false, u27, u28, u29, u30, u31, u32, u33, u34, u35, u36, f 37, f 38, f 39, f 40, f 41, f 42, f 43, f 44, f 45, f 46, f 47, f 48, f 49, f 50, f 51, f 52, f 53, f 54, f 55, f 56, f 57, f 58, f 59, f 60, f 61, f 62, f 63, f 64, f 65, f 66, f 67, f 68, f 69, f 70, f 71, f 72, f 73, f 74, f 75, f 76, f 77, f 78, f 79, f 80, f 81, f 82, f 83], defers := [] }) (fun j => if j = 47 then 6 else j + 37)
        (relL [.eq (.agg #[.slice sa g.S.length sc, .slice aa g.A.length ac, .slice ta g.T.length tc]), .eq (.bool (rightB g)), .eq (.agg #[.slice sa g.S.length sc, .slice aa g.A.length ac, .slice ta g.T.length tc]), .eq (.bool (rightB g)), .eq (.bool true), .eq (.bool true), .eq (.agg #[.slice sa g.S.length sc, .slice aa g.A.length ac, .slice ta g.T.length tc]), .eq (.int .i64 (nodesN g : Nat)), .eq (.agg #[.slice sa g.S.length sc, .slice aa g.A.length ac, .slice ta g.T.length tc]), .eq (.int .i64 (nodesN g : Nat)), .eq (.bool true), .eq (.bool true), .eq (.bool true), .eq (.agg #[.slice sa g.S.length sc, .slice aa g.A.length ac, .slice ta g.T.length tc]), .edges (allL g), .eq (.agg #[.slice sa g.S.length sc, .slice aa g.A.length ac, .slice ta g.T.length tc]), .edges (allL g), .eq (.bool true), .eq (.bool true), .eq (.bool true), .eq (.agg #[.slice sa g.S.length sc, .slice aa g.A.length ac, .slice ta g.T.length tc]), .graph (backG g), .eq (.agg #[.slice sa g.S.length sc, .slice aa g.A.length ac, .slice ta g.T.length tc]), .graph (backG g), .eq (.bool true), .eq (.bool true), .eq (.bool true), .eq (.agg #[.slice sa g.S.length sc, .slice aa g.A.length ac, .slice ta g.T.length tc]), .eq (.slice ba il.length bc), .graph (keepG g il), .eq (.agg #[.slice sa g.S.length sc, .slice aa g.A.length ac, .slice ta g.T.length tc]), .eq (.slice ba il.length bc), .graph (keepG g il), .eq (.bool true), .eq (.bool true), .eq (.bool true), .eq (.agg #[.slice sa g.S.length sc, .slice aa g.A.length ac, .slice ta g.T.length tc]), .eq (.slice fa fr.length fc), .bools (reachL g fr), .eq (.agg #[.slice sa g.S.length sc, .slice aa g.A.length ac, .slice ta g.T.length tc]), .eq (.slice fa fr.length fc), .bools (reachL g fr), .eq (.bool true), .eq (.bool true), .eq (.bool true), .eq (.bool true), .eq (.bool true), .eq (.bool true)])
        rfl (by kernel_rfl) (fun i u w w' hb h => RK.mono _ hb h) (by kernel_rfl) (by kernel_rfl) ?_ ?_ ?_
      · intro j hj f v
        rcases j with _ | _ | _ | _ | _ | _ | _ | _ | _ | _ | _ | _ | _ | _ | _ | _ | _ | _ | _ | _ | _ | _ | _ | _ | _ | _ | _ | _ | _ | _ | _ | _ | _ | _ | _ | _ | _ | _ | _ | _ | _ | _ | _ | _ | _ | _ | _ | _ | j
        all_goals first | rfl | (simp at hj; omega)
      · refine ⟨?_, ?_, ?_, ?_, ?_, ?_, ?_, ?_, ?_, ?_, ?_, ?_, ?_, ?_, ?_, ?_, ?_, ?_, ?_, ?_, ?_, ?_, ?_, ?_, ?_, ?_, ?_, ?_, ?_, ?_, ?_, ?_, ?_, ?_, ?_, ?_, ?_, ?_, ?_, ?_, ?_, ?_, ?_, ?_, ?_, ?_, ?_, ?_, trivial⟩
        · intro f w' hb hd K hK
          have e0 := bkeep hb c0
          have e1 := bkeep hb c1
          have e2 := bkeep hb c2
          dsimp only
          go_simp
          exact hK (.agg #[.slice sa g.S.length sc, .slice aa g.A.length ac, .slice ta g.T.length tc]) w' (Below.refl _ _) rfl
        · intro f w' hb hd K hK
          have h0 : f 37 = (.agg #[.slice sa g.S.length sc, .slice aa g.A.length ac, .slice ta g.T.length tc]) := hd 0 (by kernel_rfl)
          have HO := Lib.hid (right_ok _ g w' (HAT.out.below (S2.out.drew.more hb).below))
          dsimp only
          go_simp
          go_wp2_with (go_at_call 28; refine HO.out.mono ?_; rintro e w2 ⟨rfl, hb2⟩)
          have q := hK (.bool (rightB g)) w2 hb2 rfl
          simp only [h0] at q
          exact q
        · intro f w' hb hd K hK
          have e0 := bkeep hb c0
          have e1 := bkeep hb c1
          have e2 := bkeep hb c2
          dsimp only
          go_simp
          exact hK (.agg #[.slice sa g.S.length sc, .slice aa g.A.length ac, .slice ta g.T.length tc]) w' (Below.refl _ _) rfl
        · intro f w' hb hd K hK
          have h0 : f 39 = (.agg #[.slice sa g.S.length sc, .slice aa g.A.length ac, .slice ta g.T.length tc]) := hd 2 (by kernel_rfl)
          have HO := Lib.hid (rright_ok _ g w' (HAT.out.below (S2.out.drew.more hb).below))
          dsimp only
          go_simp
          go_wp2_with (go_at_call 29; refine HO.out.mono ?_; rintro e w2 ⟨rfl, hb2⟩)
          have q := hK (.bool (rightB g)) w2 hb2 rfl
          simp only [h0] at q
          exact q
        · intro f w' hb hd K hK
          have h0 : f 38 = (.bool (rightB g)) := hd 1 (by kernel_rfl)
          have h1 : f 40 = (.bool (rightB g)) := hd 3 (by kernel_rfl)
          dsimp only
          go_simp
          have q := hK (.bool true) w' (Below.refl _ _) rfl
          simp only [h0, h1] at q
          exact q
        · intro f w' hb hd K hK
          have h0 : f 41 = .bool true := hd 4 (by kernel_rfl)
          dsimp only
          go_simp
          have q := hK (.bool true) w' (Below.refl _ _) rfl
          simp only [h0] at q
          exact q
        · intro f w' hb hd K hK
          have hg : f 42 = .bool true := hd 5 (by kernel_rfl)
          have e0 := bkeep hb c0
          have e1 := bkeep hb c1
          have e2 := bkeep hb c2
          dsimp only
          go_simp
          have q := hK (.agg #[.slice sa g.S.length sc, .slice aa g.A.length ac, .slice ta g.T.length tc]) w' (Below.refl _ _) rfl
          simp only [hg] at q
          exact q
        · intro f w' hb hd K hK
          have hg : f 42 = .bool true := hd 5 (by kernel_rfl)
          have h0 : f 43 = (.agg #[.slice sa g.S.length sc, .slice aa g.A.length ac, .slice ta g.T.length tc]) := hd 6 (by kernel_rfl)
          have HO := Lib.hid (nodes_ok _ g w' (HAT.out.below (S2.out.drew.more hb).below))
          dsimp only
          go_simp
          go_wp2_with (go_at_call 30; refine HO.out.mono ?_; rintro e w2 ⟨rfl, hb2⟩)
          have q := hK (.int .i64 (nodesN g : Nat)) w2 hb2 rfl
          simp only [hg, h0] at q
          exact q
        · intro f w' hb hd K hK
          have hg : f 42 = .bool true := hd 5 (by kernel_rfl)
          have e0 := bkeep hb c0
          have e1 := bkeep hb c1
          have e2 := bkeep hb c2
          dsimp only
          go_simp
          have q := hK (.agg #[.slice sa g.S.length sc, .slice aa g.A.length ac, .slice ta g.T.length tc]) w' (Below.refl _ _) rfl
          simp only [hg] at q
          exact q
        · intro f w' hb hd K hK
          have hg : f 42 = .bool true := hd 5 (by kernel_rfl)
          have h0 : f 45 = (.agg #[.slice sa g.S.length sc, .slice aa g.A.length ac, .slice ta g.T.length tc]) := hd 8 (by kernel_rfl)
          have HO := Lib.hid (rnodes_ok _ g w' (HAT.out.below (S2.out.drew.more hb).below))
          dsimp only
          go_simp
          go_wp2_with (go_at_call 31; refine HO.out.mono ?_; rintro e w2 ⟨rfl, hb2⟩)
          have q := hK (.int .i64 (nodesN g : Nat)) w2 hb2 rfl
          simp only [hg, h0] at q
          exact q
        · intro f w' hb hd K hK
          have hg : f 42 = .bool true := hd 5 (by kernel_rfl)
          have h0 : f 44 = (.int .i64 (nodesN g : Nat)) := hd 7 (by kernel_rfl)
          have h1 : f 46 = (.int .i64 (nodesN g : Nat)) := hd 9 (by kernel_rfl)
          dsimp only
          go_simp
          have q := hK (.bool true) w' (Below.refl _ _) rfl
          simp only [hg, h0, h1] at q
          exact q
        · intro f w' hb hd K hK
          have h0 : f 42 = .bool true := hd 5 (by kernel_rfl)
          have h1 : f 47 = .bool true := hd 10 (by kernel_rfl)
          dsimp only
          go_simp
          have q := hK (.bool true) w' (Below.refl _ _) rfl
          simp only [h0, h1] at q
          exact q
        · intro f w' hb hd K hK
          have h0 : f 48 = .bool true := hd 11 (by kernel_rfl)
          dsimp only
          go_simp
          have q := hK (.bool true) w' (Below.refl _ _) rfl
          simp only [h0] at q
          exact q
        · intro f w' hb hd K hK
          have hg : f 49 = .bool true := hd 12 (by kernel_rfl)
          have e0 := bkeep hb c0
          have e1 := bkeep hb c1
          have e2 := bkeep hb c2
          dsimp only
          go_simp
          have q := hK (.agg #[.slice sa g.S.length sc, .slice aa g.A.length ac, .slice ta g.T.length tc]) w' (Below.refl _ _) rfl
          simp only [hg] at q
          exact q
        · intro f w' hb hd K hK
          have hg : f 49 = .bool true := hd 12 (by kernel_rfl)
          have h0 : f 50 = (.agg #[.slice sa g.S.length sc, .slice aa g.A.length ac, .slice ta g.T.length tc]) := hd 13 (by kernel_rfl)
          have HO := Lib.hid (all_any _ g w' (HAT.out.below (S2.out.drew.more hb).below))
          dsimp only
          go_simp
          go_wp2_with (go_at_call 32; refine HO.out.mono ?_; rintro e w2 ⟨lv, rfl, hE, hb2⟩)
          have q := hK lv w2 hb2 hE
          simp only [hg, h0] at q
          exact q
        · intro f w' hb hd K hK
          have hg : f 49 = .bool true := hd 12 (by kernel_rfl)
          have e0 := bkeep hb c0
          have e1 := bkeep hb c1
          have e2 := bkeep hb c2
          dsimp only
          go_simp
          have q := hK (.agg #[.slice sa g.S.length sc, .slice aa g.A.length ac, .slice ta g.T.length tc]) w' (Below.refl _ _) rfl
          simp only [hg] at q
          exact q
        · intro f w' hb hd K hK
          have hg : f 49 = .bool true := hd 12 (by kernel_rfl)
          have h0 : f 52 = (.agg #[.slice sa g.S.length sc, .slice aa g.A.length ac, .slice ta g.T.length tc]) := hd 15 (by kernel_rfl)
          have HO := Lib.hid (rall_ok _ g w' (HAT.out.below (S2.out.drew.more hb).below))
          dsimp only
          go_simp
          go_wp2_with (go_at_call 33; refine HO.out.mono ?_; rintro e w2 ⟨lv, rfl, hE, hb2⟩)
          have q := hK lv w2 hb2 hE
          simp only [hg, h0] at q
          exact q
        · intro f w' hb hd K hK
          have hg : f 49 = .bool true := hd 12 (by kernel_rfl)
          have h0 : EdgesAt w' (f 51) (allL g) := hd 14 (by kernel_rfl)
          have h1 : EdgesAt w' (f 53) (allL g) := hd 16 (by kernel_rfl)
          have HO := Lib.hid (edges_same _ _ _ w' h0 h1 HALn.out)
          clear h0 h1
          dsimp only
          go_simp
          go_wp2_with (go_at_call 24; refine HO.out.mono ?_; rintro e w2 ⟨rfl, hb2⟩)
          have q := hK (.bool true) w2 hb2 rfl
          simp only [hg] at q
          exact q
        · intro f w' hb hd K hK
          have h0 : f 49 = .bool true := hd 12 (by kernel_rfl)
          have h1 : f 54 = .bool true := hd 17 (by kernel_rfl)
          dsimp only
          go_simp
          have q := hK (.bool true) w' (Below.refl _ _) rfl
          simp only [h0, h1] at q
          exact q
        · intro f w' hb hd K hK
          have h0 : f 55 = .bool true := hd 18 (by kernel_rfl)
          dsimp only
          go_simp
          have q := hK (.bool true) w' (Below.refl _ _) rfl
          simp only [h0] at q
          exact q
        · intro f w' hb hd K hK
          have hg : f 56 = .bool true := hd 19 (by kernel_rfl)
          have e0 := bkeep hb c0
          have e1 := bkeep hb c1
          have e2 := bkeep hb c2
          dsimp only
          go_simp
          have q := hK (.agg #[.slice sa g.S.length sc, .slice aa g.A.length ac, .slice ta g.T.length tc]) w' (Below.refl _ _) rfl
          simp only [hg] at q
          exact q
        · intro f w' hb hd K hK
          have hg : f 56 = .bool true := hd 19 (by kernel_rfl)
          have h0 : f 57 = (.agg #[.slice sa g.S.length sc, .slice aa g.A.length ac, .slice ta g.T.length tc]) := hd 20 (by kernel_rfl)
          have HO := Lib.hid (back_ok _ g w' (HAT.out.below (S2.out.drew.more hb).below))
          dsimp only
          go_simp
          go_wp2_with (go_at_call 34; refine HO.out.mono ?_; rintro e w2 ⟨lv, rfl, hE, hb2⟩)
          have q := hK lv w2 hb2 hE
          simp only [hg, h0] at q
          exact q
        · intro f w' hb hd K hK
          have hg : f 56 = .bool true := hd 19 (by kernel_rfl)
          have e0 := bkeep hb c0
          have e1 := bkeep hb c1
          have e2 := bkeep hb c2
          dsimp only
          go_simp
          have q := hK (.agg #[.slice sa g.S.length sc, .slice aa g.A.length ac, .slice ta g.T.length tc]) w' (Below.refl _ _) rfl
          simp only [hg] at q
          exact q
        · intro f w' hb hd K hK
          have hg : f 56 = .bool true := hd 19 (by kernel_rfl)
          have h0 : f 59 = (.agg #[.slice sa g.S.length sc, .slice aa g.A.length ac, .slice ta g.T.length tc]) := hd 22 (by kernel_rfl)
          have HO := Lib.hid (rback_ok _ g w' (HAT.out.below (S2.out.drew.more hb).below))
          dsimp only
          go_simp
          go_wp2_with (go_at_call 35; refine HO.out.mono ?_; rintro e w2 ⟨lv, rfl, hE, hb2⟩)
          have q := hK lv w2 hb2 hE
          simp only [hg, h0] at q
          exact q
        · intro f w' hb hd K hK
          have hg : f 56 = .bool true := hd 19 (by kernel_rfl)
          have h0 : GraphAt w' (f 58) (backG g) := hd 21 (by kernel_rfl)
          have h1 : GraphAt w' (f 60) (backG g) := hd 23 (by kernel_rfl)
          have HO := Lib.hid (graphs_same _ _ _ w' h0 h1)
          clear h0 h1
          dsimp only
          go_simp
          go_wp2_with (go_at_call 23; refine HO.out.mono ?_; rintro e w2 ⟨rfl, hb2⟩)
          have q := hK (.bool true) w2 hb2 rfl
          simp only [hg] at q
          exact q
        · intro f w' hb hd K hK
          have h0 : f 56 = .bool true := hd 19 (by kernel_rfl)
          have h1 : f 61 = .bool true := hd 24 (by kernel_rfl)
          dsimp only
          go_simp
          have q := hK (.bool true) w' (Below.refl _ _) rfl
          simp only [h0, h1] at q
          exact q
        · intro f w' hb hd K hK
          have h0 : f 62 = .bool true := hd 25 (by kernel_rfl)
          dsimp only
          go_simp
          have q := hK (.bool true) w' (Below.refl _ _) rfl
          simp only [h0] at q
          exact q
        · intro f w' hb hd K hK
          have hg : f 63 = .bool true := hd 26 (by kernel_rfl)
          have e0 := bkeep hb c0
          have e1 := bkeep hb c1
          have e2 := bkeep hb c2
          dsimp only
          go_simp
          have q := hK (.agg #[.slice sa g.S.length sc, .slice aa g.A.length ac, .slice ta g.T.length tc]) w' (Below.refl _ _) rfl
          simp only [hg] at q
          exact q
        · intro f w' hb hd K hK
          have hg : f 63 = .bool true := hd 26 (by kernel_rfl)
          dsimp only
          go_simp
          have q := hK (.slice ba il.length bc) w' (Below.refl _ _) rfl
          simp only [hg] at q
          exact q
        · intro f w' hb hd K hK
          have hg : f 63 = .bool true := hd 26 (by kernel_rfl)
          have h0 : f 64 = (.agg #[.slice sa g.S.length sc, .slice aa g.A.length ac, .slice ta g.T.length tc]) := hd 27 (by kernel_rfl)
          have h1 : f 65 = .slice ba il.length bc := hd 28 (by kernel_rfl)
          have HO := Lib.hid (keep_ok _ _ g il w' (HAT.out.below (S2.out.drew.more hb).below) (HBI.out.below (S2.out.drew.more hb).below) hbl)
          dsimp only
          go_simp
          go_wp2_with (go_at_call 36; refine HO.out.mono ?_; rintro e w2 ⟨lv, rfl, hE, hb2⟩)
          have q := hK lv w2 hb2 hE
          simp only [hg, h0, h1] at q
          exact q
        · intro f w' hb hd K hK
          have hg : f 63 = .bool true := hd 26 (by kernel_rfl)
          have e0 := bkeep hb c0
          have e1 := bkeep hb c1
          have e2 := bkeep hb c2
          dsimp only
          go_simp
          have q := hK (.agg #[.slice sa g.S.length sc, .slice aa g.A.length ac, .slice ta g.T.length tc]) w' (Below.refl _ _) rfl
          simp only [hg] at q
          exact q
        · intro f w' hb hd K hK
          have hg : f 63 = .bool true := hd 26 (by kernel_rfl)
          dsimp only
          go_simp
          have q := hK (.slice ba il.length bc) w' (Below.refl _ _) rfl
          simp only [hg] at q
          exact q
        · intro f w' hb hd K hK
          have hg : f 63 = .bool true := hd 26 (by kernel_rfl)
          have h0 : f 67 = (.agg #[.slice sa g.S.length sc, .slice aa g.A.length ac, .slice ta g.T.length tc]) := hd 30 (by kernel_rfl)
          have h1 : f 68 = .slice ba il.length bc := hd 31 (by kernel_rfl)
          have HO := Lib.hid (rkeep_ok _ _ g il w' (HAT.out.below (S2.out.drew.more hb).below) (HBI.out.below (S2.out.drew.more hb).below) hbl)
          dsimp only
          go_simp
          go_wp2_with (go_at_call 37; refine HO.out.mono ?_; rintro e w2 ⟨lv, rfl, hE, hb2⟩)
          have q := hK lv w2 hb2 hE
          simp only [hg, h0, h1] at q
          exact q
        · intro f w' hb hd K hK
          have hg : f 63 = .bool true := hd 26 (by kernel_rfl)
          have h0 : GraphAt w' (f 66) (keepG g il) := hd 29 (by kernel_rfl)
          have h1 : GraphAt w' (f 69) (keepG g il) := hd 32 (by kernel_rfl)
          have HO := Lib.hid (graphs_same _ _ _ w' h0 h1)
          clear h0 h1
          dsimp only
          go_simp
          go_wp2_with (go_at_call 23; refine HO.out.mono ?_; rintro e w2 ⟨rfl, hb2⟩)
          have q := hK (.bool true) w2 hb2 rfl
          simp only [hg] at q
          exact q
        · intro f w' hb hd K hK
          have h0 : f 63 = .bool true := hd 26 (by kernel_rfl)
          have h1 : f 70 = .bool true := hd 33 (by kernel_rfl)
          dsimp only
          go_simp
          have q := hK (.bool true) w' (Below.refl _ _) rfl
          simp only [h0, h1] at q
          exact q
        · intro f w' hb hd K hK
          have h0 : f 71 = .bool true := hd 34 (by kernel_rfl)
          dsimp only
          go_simp
          have q := hK (.bool true) w' (Below.refl _ _) rfl
          simp only [h0] at q
          exact q
        · intro f w' hb hd K hK
          have hg : f 72 = .bool true := hd 35 (by kernel_rfl)
          have e0 := bkeep hb c0
          have e1 := bkeep hb c1
          have e2 := bkeep hb c2
          dsimp only
          go_simp
          have q := hK (.agg #[.slice sa g.S.length sc, .slice aa g.A.length ac, .slice ta g.T.length tc]) w' (Below.refl _ _) rfl
          simp only [hg] at q
          exact q
        · intro f w' hb hd K hK
          have hg : f 72 = .bool true := hd 35 (by kernel_rfl)
          dsimp only
          go_simp
          have q := hK (.slice fa fr.length fc) w' (Below.refl _ _) rfl
          simp only [hg] at q
          exact q
        · intro f w' hb hd K hK
          have hg : f 72 = .bool true := hd 35 (by kernel_rfl)
          have h0 : f 73 = (.agg #[.slice sa g.S.length sc, .slice aa g.A.length ac, .slice ta g.T.length tc]) := hd 36 (by kernel_rfl)
          have h1 : f 74 = .slice fa fr.length fc := hd 37 (by kernel_rfl)
          have HO := Lib.hid (reach_ok _ _ g fr w' (HAT.out.below (S2.out.drew.more hb).below) (HFR.out.below (S2.out.drew.more hb).below) HFL.out)
          dsimp only
          go_simp
          go_wp2_with (go_at_call 39; refine HO.out.mono ?_; rintro e w2 ⟨lv, rfl, hE, hb2⟩)
          have q := hK lv w2 hb2 hE
          simp only [hg, h0, h1] at q
          exact q
        · intro f w' hb hd K hK
          have hg : f 72 = .bool true := hd 35 (by kernel_rfl)
          have e0 := bkeep hb c0
          have e1 := bkeep hb c1
          have e2 := bkeep hb c2
          dsimp only
          go_simp
          have q := hK (.agg #[.slice sa g.S.length sc, .slice aa g.A.length ac, .slice ta g.T.length tc]) w' (Below.refl _ _) rfl
          simp only [hg] at q
          exact q
        · intro f w' hb hd K hK
          have hg : f 72 = .bool true := hd 35 (by kernel_rfl)
          dsimp only
          go_simp
          have q := hK (.slice fa fr.length fc) w' (Below.refl _ _) rfl
          simp only [hg] at q
          exact q
        · intro f w' hb hd K hK
          have hg : f 72 = .bool true := hd 35 (by kernel_rfl)
          have h0 : f 76 = (.agg #[.slice sa g.S.length sc, .slice aa g.A.length ac, .slice ta g.T.length tc]) := hd 39 (by kernel_rfl)
          have h1 : f 77 = .slice fa fr.length fc := hd 40 (by kernel_rfl)
          have HO := Lib.hid (rreach_ok _ _ g fr w' (HAT.out.below (S2.out.drew.more hb).below) (HFR.out.below (S2.out.drew.more hb).below) HFL.out)
          dsimp only
          go_simp
          go_wp2_with (go_at_call 40; refine HO.out.mono ?_; rintro e w2 ⟨lv, rfl, hE, hb2⟩)
          have q := hK lv w2 hb2 hE
          simp only [hg, h0, h1] at q
          exact q
        · intro f w' hb hd K hK
          have hg : f 72 = .bool true := hd 35 (by kernel_rfl)
          have h0 : BoolsAt w' (f 75) (reachL g fr) := hd 38 (by kernel_rfl)
          have h1 : BoolsAt w' (f 78) (reachL g fr) := hd 41 (by kernel_rfl)
          have HO := Lib.hid (bools_same _ _ _ w' h0 h1 HRL.out)
          clear h0 h1
          dsimp only
          go_simp
          go_wp2_with (go_at_call 38; refine HO.out.mono ?_; rintro e w2 ⟨rfl, hb2⟩)
          have q := hK (.bool true) w2 hb2 rfl
          simp only [hg] at q
          exact q
        · intro f w' hb hd K hK
          have h0 : f 72 = .bool true := hd 35 (by kernel_rfl)
          have h1 : f 79 = .bool true := hd 42 (by kernel_rfl)
          dsimp only
          go_simp
          have q := hK (.bool true) w' (Below.refl _ _) rfl
          simp only [h0, h1] at q
          exact q
        · intro f w' hb hd K hK
          have h0 : f 80 = .bool true := hd 43 (by kernel_rfl)
          dsimp only
          go_simp
          have q := hK (.bool true) w' (Below.refl _ _) rfl
          simp only [h0] at q
          exact q
        · intro f w' hb hd K hK
          have hg : f 81 = .bool true := hd 44 (by kernel_rfl)
          have HO := Lib.hid (known14 w')
          dsimp only
          go_simp
          go_wp2_with (go_at_call 20; refine HO.out.mono ?_; rintro e w2 ⟨rfl, hb2⟩)
          have q := hK (.bool true) w2 hb2 rfl
          simp only [hg] at q
          exact q
        · intro f w' hb hd K hK
          have h0 : f 81 = .bool true := hd 44 (by kernel_rfl)
          have h1 : f 82 = .bool true := hd 45 (by kernel_rfl)
          dsimp only
          go_simp
          have q := hK (.bool true) w' (Below.refl _ _) rfl
          simp only [h0, h1] at q
          exact q
        · intro f w' hb hd K hK
          have h0 : f 83 = .bool true := hd 46 (by kernel_rfl)
          dsimp only
          go_simp
          have q := hK (.bool true) w' (Below.refl _ _) rfl
          simp only [h0] at q
          exact q
      · intro f w' hb hr
        have h6 : f 6 = .bool true := hr 47 (by decide)
        have HB2 := Lib.hid (S2.out.below.trans (hb.mono S2.out.below.size))
        clear hr hb
        dsimp only
        rw [h6]
        generalize f 37 = x37
        generalize f 38 = x38
        generalize f 39 = x39
        generalize f 40 = x40
        generalize f 41 = x41
        generalize f 42 = x42
        generalize f 43 = x43
        generalize f 44 = x44
        generalize f 45 = x45
        generalize f 46 = x46
        generalize f 47 = x47
        generalize f 48 = x48
        generalize f 49 = x49
        generalize f 50 = x50
        generalize f 51 = x51
        generalize f 52 = x52
        generalize f 53 = x53
        generalize f 54 = x54
        generalize f 55 = x55
        generalize f 56 = x56
        generalize f 57 = x57
        generalize f 58 = x58
        generalize f 59 = x59
        generalize f 60 = x60
        generalize f 61 = x61
        generalize f 62 = x62
        generalize f 63 = x63
        generalize f 64 = x64
        generalize f 65 = x65
        generalize f 66 = x66
        generalize f 67 = x67
        generalize f 68 = x68
        generalize f 69 = x69
        generalize f 70 = x70
        generalize f 71 = x71
        generalize f 72 = x72
        generalize f 73 = x73
        generalize f 74 = x74
        generalize f 75 = x75
        generalize f 76 = x76
        generalize f 77 = x77
        generalize f 78 = x78
        generalize f 79 = x79
        generalize f 80 = x80
        generalize f 81 = x81
        generalize f 82 = x82
        generalize f 83 = x83
        go_wp2_with fail
        go_ret
        exact ⟨rfl, HB2.out⟩
end Go.Proofs.Ytnlaonppgebpoaa
