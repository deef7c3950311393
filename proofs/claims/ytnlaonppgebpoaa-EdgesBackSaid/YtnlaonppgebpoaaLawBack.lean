/-
  spinnakerlaw14.EdgesBack: the walk. (Written by gen_lawback.py.)
-/
import Derived.Test.YtnlaonppgebpoaaLawReach
import Derived.Test.YtnlaonppgebpoaaBackLaw
import Derived.Test.YtnlaonppgebpoaaAnyRel
namespace Go.Proofs.Ytnlaonppgebpoaa
open Go.RowKit

set_option maxRecDepth 100000 in
set_option maxHeartbeats 16000000 in
theorem lawBack (v : Value) (g : Gr) (w : World) (hG : GraphArg w v g) :
    Calls Try.prog 5 #[v] w fun e w' => e = .returned (.bool true) ∧ Below w.heap.size w w' := by
  obtain ⟨sa, aa, ta, sc, ac, tc, rfl⟩ := hG.var
  have hs := varst_start w #[.slice sa g.S.length sc, .slice aa g.A.length ac, .slice ta g.T.length tc]
  have HL := Lib.hid (hG.below hs.below).light
  have HS := Lib.hid hs
  cases hlit : lit3 g.S.length g.T.length g.A.length
  · rw [hlit] at HL
    clear hG hs hlit
    go_enter Try.func5, Try.ntmps5
    go_wp2_with (first
      | (go_at_call 25; refine HL.out.mono ?_; rintro e w1 ⟨rfl, hb⟩; have S1 := Lib.hid (HS.out.more hb))
      | (go_at_call 20; refine (known14 _).mono ?_; rintro e w5 ⟨rfl, hb⟩; have S5 := Lib.hid (S1.out.more hb)))
    go_ret
    exact ⟨rfl, S5.out.below⟩
  rw [hlit] at HL
  have hAt := hG.at hlit
  have HR := Lib.hid (fun w' (hw : Below w.heap.size w w') => right_ok _ g w' (hAt.below hw))
  cases hr : rightB g
  · rw [hr] at HR
    clear hG hs hlit hAt
    go_enter Try.func5, Try.ntmps5
    go_wp2_with (first
      | (go_at_call 25; refine HL.out.mono ?_; rintro e w1 ⟨rfl, hb⟩; have S1 := Lib.hid (HS.out.more hb); have c0 := cell_of_block S1.out.vg 0 _ rfl; have c1 := cell_of_block S1.out.vg 1 _ rfl; have c2 := cell_of_block S1.out.vg 2 _ rfl)
      | (go_at_call 28; refine (HR.out _ S1.out.below).mono ?_; rintro e w2 ⟨rfl, hb2⟩; have S2 := Lib.hid (S1.out.more hb2))
      | (go_at_call 20; refine (known14 _).mono ?_; rintro e w5 ⟨rfl, hb5⟩; have S5 := Lib.hid (S2.out.more hb5)))
    go_ret
    exact ⟨rfl, S5.out.below⟩
  rw [hr] at HR
  have hR := (rightB_iff g).1 hr
  have hsz := (lit3_spec hlit).1
  have h1e5 : g.S.length ≤ 100000 := by omega
  have HN := Lib.hid (fun w' (hw : Below w.heap.size w w') => nodes_ok _ g w' (hAt.below hw))
  have HA := Lib.hid (fun w' (hw : Below w.heap.size w w') => all_any _ g w' (hAt.below hw))
  have HAT := Lib.hid hAt
  have HBk := Lib.hid (fun w' (hw : Below w.heap.size w w') => back_ok _ g w' (hAt.below hw))
  have hal : (allL g).length ≤ 1000000 := by rw [allL_len hR]; exact hAt.sT
  have HBd : Hid (∀ v' w', EdgesAt w' v' (allL g) → Calls Try.prog 21 #[.int .i64 (nodesN g : Nat), v'] w' (GraphErr w' g 0)) := Lib.hid (fun v' w' h => by have := build_any (nodesN g : Nat) v' (allL g) w' h hal; rw [(build_all hR h1e5).1, (build_all hR h1e5).2] at this; exact this)
  have P2 := Lib.hid ((rightB_iff _).2 (back2_right hR h1e5))
  have P3 := Lib.hid (fun i (hi : i < nodesN g) => back2_out hR h1e5 hi)
  have P4 := Lib.hid (keep_all hR h1e5)
  have P5 := Lib.hid (keep_none hR h1e5)
  have hnn : nodesN g ≤ 1000000 := by rw [nodesN_right hR]; omega
  clear hG hs hlit hAt hR hr h1e5 hsz hal
  generalize hB1 : backG g = B1 at *
  generalize hB2 : backG B1 = B at *
  have HB2 := Lib.hid hB2
  generalize hN : nodesN g = n at *
  clear hB1 hB2 hN
  go_enter Try.func5, Try.ntmps5
  go_wp2_with (first
    | (go_at_call 25; refine HL.out.mono ?_; rintro e w1 ⟨rfl, hb⟩; have S1 := Lib.hid (HS.out.more hb); have c0 := cell_of_block S1.out.vg 0 _ rfl; have c1 := cell_of_block S1.out.vg 1 _ rfl; have c2 := cell_of_block S1.out.vg 2 _ rfl; clear hb)
    | (go_at_call 28; refine (HR.out _ S1.out.below).mono ?_; rintro e w2 ⟨rfl, hb⟩; have S2 := Lib.hid (S1.out.more hb); clear c0 c1 c2; have c0 := cell_of_block S2.out.vg 0 _ rfl; have c1 := cell_of_block S2.out.vg 1 _ rfl; have c2 := cell_of_block S2.out.vg 2 _ rfl; clear hb)
    | (go_at_call 30; refine (HN.out _ S2.out.below).mono ?_; rintro e w3 ⟨rfl, hb⟩; have S3 := Lib.hid (S2.out.more hb); clear c0 c1 c2; have c0 := cell_of_block S3.out.vg 0 _ rfl; have c1 := cell_of_block S3.out.vg 1 _ rfl; have c2 := cell_of_block S3.out.vg 2 _ rfl; clear hb)
    | (go_at_call 32; refine (HA.out _ S3.out.below).mono ?_; rintro e w4 ⟨lv, rfl, hE, hb⟩; have E4 := Lib.hid hE; have S4 := Lib.hid (S3.out.more hb); clear c0 c1 c2 hE hb)
    | (go_at_call 21; refine (HBd.out _ _ E4.out).mono ?_; rintro e w5 ⟨hv, rfl, hG, hb⟩; obtain ⟨s4, a4, t4, p4, q4, r4, rfl, -⟩ := hG.var; have S5 := Lib.hid ((S4.out.more hb).more (balloc w5 (.cells #[.slice s4 g.S.length p4, .slice a4 g.A.length q4, .slice t4 g.T.length r4] 26))); have T5 := Lib.hid (KnSt.intro (S4.out.more hb).below hG); have c0 := cell_of_block S5.out.vg 0 _ rfl; have c1 := cell_of_block S5.out.vg 1 _ rfl; have c2 := cell_of_block S5.out.vg 2 _ rfl; clear hb hG)
    | (go_at_call_of 34 sa; refine (HBk.out _ S5.out.below).mono ?_; rintro e w6 ⟨bv, rfl, hG, hb⟩; have G6 := Lib.hid hG; obtain ⟨s5, a5, t5, p5, q5, r5, rfl, -⟩ := hG.var; have S6 := Lib.hid (S5.out.more hb); have T6 := Lib.hid (T5.out.more hb); clear c0 c1 c2 hb hG)
    | (go_at_call_of 34 s5; refine (back_ok _ B1 _ G6.out).mono ?_; rintro e w7 ⟨bv2, rfl, hG, hb⟩; rw [HB2.out] at hG; obtain ⟨s6, a6, t6, p6, q6, r6, rfl, -⟩ := hG.var; have S7 := Lib.hid ((S6.out.more hb).more (balloc w7 (.cells #[.slice s6 B.S.length p6, .slice a6 B.A.length q6, .slice t6 B.T.length r6] 26))); have T7 := Lib.hid ((T6.out.more hb).more (balloc w7 (.cells #[.slice s6 B.S.length p6, .slice a6 B.A.length q6, .slice t6 B.T.length r6] 26))); have U7 := Lib.hid (KnSt.intro (S6.out.more hb).below hG); clear hb hG)
    | (at_make; refine wpList_make_one _ rfl (.tmp 30) (.tmp 30) 33 rfl 4 (.bool false) rfl 1 Try.underlying33 Try.info4 .i64 .i64 (n : Nat) (n : Nat) n rfl rfl rfl rfl (by omega) (by unfold maxLen; omega) ?_; intro w8 hh8 hb8 hlt8; have LB := Lib.hid (LbSt.mk (out := List.replicate n false) (S7.out.more hb8).below (S7.out.more hb8).vg (T7.out.more hb8).l1 (U7.out.more hb8).l1 (by rw [bools_replicate]; exact hh8) (HAT.out.below (S7.out.more hb8).below) (T7.out.more hb8).g1 (U7.out.more hb8).g1 (by have := S7.out.below.size; have := (Array.getElem?_eq_some_iff.1 S7.out.vg).1; omega)); clear hh8 hb8 hlt8))
  go_loopg [8] n (fun fu c wr => ∃ (k : Nat) (out : List Bool), k + fu = n ∧ c = .int .i64 k ∧ out.length = n ∧ (∀ j, j < k → out.getD j false = true) ∧ LbSt w wr #[.slice sa g.S.length sc, .slice aa g.A.length ac, .slice ta g.T.length tc] #[.slice s4 g.S.length p4, .slice a4 g.A.length q4, .slice t4 g.T.length r4] #[.slice s6 B.S.length p6, .slice a6 B.A.length q6, .slice t6 B.T.length r6] w5.heap.size w7.heap.size (w7.heap.size + 1) g B out)
  case atStart => exact ⟨0, List.replicate n false, by omega, rfl, by simp, fun j hj => by omega, by have := LB.out; rw [World.size_alloc] at this; exact this⟩
  case round =>
    clear LB
    obtain ⟨k, out, hk, rfl, hol, hot, hS⟩ := hrel
    by_cases hlt : k < n
    · have i1 : (k : Int) < (n : Int) := by omega
      have y := cell_of_block hS.bo k _ (bools_get out k (by omega))
      have fz := free_of_block hS.bo k
      have hS2 := hS.set k
      have hot2 : ∀ j, j < k + 1 → (out.set k true).getD j false = true := fun j hj => by
        rw [getD_set _ _ _ _ _ (by omega)]
        by_cases e : j = k
        · rw [if_pos e]
        · rw [if_neg e]; exact hot j (by omega)
      have HOL := Lib.hid (show (out.set k true).length = n by rw [List.length_set]; exact hol)
      have HOT := Lib.hid hot2
      have S2 := Lib.hid hS2
      have c0 := cell_of_block hS2.l1 0 _ rfl
      have c1 := cell_of_block hS2.l1 1 _ rfl
      have c2 := cell_of_block hS2.l1 2 _ rfl
      have d0 := cell_of_block hS2.l6 0 _ rfl
      have d1 := cell_of_block hS2.l6 1 _ rfl
      have d2 := cell_of_block hS2.l6 2 _ rfl
      obtain ⟨m, hm⟩ : ∃ m, (outL g k).length = m := ⟨_, rfl⟩
      have HM := Lib.hid hm
      have HM2 := Lib.hid ((P3.out k hlt).trans hm)
      clear hS hS2 hot hot2 hol hm
      generalize out.getD k false = ov at *
      go_wp2_with fail
      generalize hwx : World.setCell wr _ _ = wx at *
      clear hwx
      refine region_rel (fun q => match q with | 40 => u40 | 41 => u41 | 42 => u42 | 43 => u43 | 44 => u44 | 45 => u45 | 46 => u46 | 47 => u47 | 48 => u48 | _ => undef)
        (fun f => { tmps := #[(.agg #[.slice sa g.S.length sc, .slice aa g.A.length ac, .slice ta g.T.length tc]), (.pointer (some ⟨w.heap.size, 0, none⟩)), u2, (.int .i64 (n : Nat)), (.pointer (some ⟨w5.heap.size, 0, none⟩)), (.int .i64 0), (.pointer (some ⟨w7.heap.size, 0, none⟩)), (.slice (some ⟨w7.heap.size + 1, 0, none⟩) n n), (.int .i64 (k : Nat)), (.agg #[.slice sa g.S.length sc, .slice aa g.A.length ac, .slice ta g.T.length tc]), (.bool true), (.bool false), (.bool false), (.agg #[.slice sa g.S.length sc, .slice aa g.A.length ac, .slice ta g.T.length tc]), (.bool true), (.bool false), (.bool false), undef, (.agg #[.slice sa g.S.length sc, .slice aa g.A.length ac, .slice ta g.T.length tc]), (.int .i64 (n : Nat)), (.tuple #[(.agg #[.slice s4 g.S.length p4, .slice a4 g.A.length q4, .slice t4 g.T.length r4]), .int .i64 0]), (.int .i64 (n : Nat)), (.agg #[.slice sa g.S.length sc, .slice aa g.A.length ac, .slice ta g.T.length tc]), lv, (.tuple #[(.agg #[.slice s4 g.S.length p4, .slice a4 g.A.length q4, .slice t4 g.T.length r4]), .int .i64 0]), (.agg #[.slice s4 g.S.length p4, .slice a4 g.A.length q4, .slice t4 g.T.length r4]), (.int .i64 0), (.agg #[.slice sa g.S.length sc, .slice aa g.A.length ac, .slice ta g.T.length tc]), (.agg #[.slice s5 B1.S.length p5, .slice a5 B1.A.length q5, .slice t5 B1.T.length r5]), (.agg #[.slice s6 B.S.length p6, .slice a6 B.A.length q6, .slice t6 B.T.length r6]), (.int .i64 (n : Nat)), (.slice (some ⟨w7.heap.size + 1, 0, none⟩) n n), (.int .i64 (k : Nat)), (.int .i64 (n : Nat)), (.bool true), u35, u36, (.slice (some ⟨w7.heap.size + 1, 0, none⟩) n n), (.int .i64 (k : Nat)), (.pointer (some ⟨w7.heap.size + 1, k, none⟩)), f 40, f 41, f 42, f 43, f 44, f 45, f 46, f 47, f 48, undef, undef, undef, undef, undef, undef, undef, undef, undef, undef, undef, undef, undef, undef, undef, undef, undef, undef, undef, undef, undef, undef, undef, undef, undef, undef, undef, undef], defers := [] }) (fun j => j + 40)
        (relL [.eq (.agg #[.slice sa g.S.length sc, .slice aa g.A.length ac, .slice ta g.T.length tc]), .eq (.int .i64 (k : Nat)), .edges (outL g (k : Nat)), .eq (.int .i64 (m : Nat)), .eq (.agg #[.slice s6 B.S.length p6, .slice a6 B.A.length q6, .slice t6 B.T.length r6]), .eq (.int .i64 (k : Nat)), .edges (outL B (k : Nat)), .eq (.int .i64 (m : Nat)), .eq (.bool false)])
        rfl (by kernel_rfl) (fun i u w w' hb h => RK.mono _ hb h) (by kernel_rfl) (by kernel_rfl) ?_ ?_ ?_
      · intro j hj f v
        rcases j with _ | _ | _ | _ | _ | _ | _ | _ | _ | j
        all_goals first | rfl | (simp at hj; omega)
      · refine ⟨?_, ?_, ?_, ?_, ?_, ?_, ?_, ?_, ?_, trivial⟩
        · intro f w' hb hd K hK
          have e0 := bkeep hb c0
          have e1 := bkeep hb c1
          have e2 := bkeep hb c2
          dsimp only
          go_simp
          exact hK (.agg #[.slice sa g.S.length sc, .slice aa g.A.length ac, .slice ta g.T.length tc]) w' (Below.refl _ _) rfl
        · intro f w' hb hd K hK
          dsimp only
          go_simp
          exact hK (.int .i64 (k : Nat)) w' (Below.refl _ _) rfl
        · intro f w' hb hd K hK
          have h0 : f 40 = (.agg #[.slice sa g.S.length sc, .slice aa g.A.length ac, .slice ta g.T.length tc]) := hd 0 (by kernel_rfl)
          have h1 : f 41 = (.int .i64 (k : Nat)) := hd 1 (by kernel_rfl)
          have HO := Lib.hid (out_ok _ g (k : Nat) w' (S2.out.drew.more hb).g1)
          dsimp only
          go_simp
          go_wp2_with (go_at_call 26; refine HO.out.mono ?_; rintro e w2 ⟨lv, rfl, hE, hb2⟩)
          have q := hK lv w2 hb2 hE
          simp only [h0, h1] at q
          exact q
        · intro f w' hb hd K hK
          have h : EdgesAt w' (f 42) (outL g (k : Nat)) := hd 2 (by kernel_rfl)
          obtain ⟨xa, xc, hx, -⟩ := h
          rw [HM.out] at hx
          dsimp only
          go_simp
          have q := hK (.int .i64 (m : Nat)) w' (Below.refl _ _) rfl
          simp only [hx] at q
          exact q
        · intro f w' hb hd K hK
          have e0 := bkeep hb d0
          have e1 := bkeep hb d1
          have e2 := bkeep hb d2
          dsimp only
          go_simp
          exact hK (.agg #[.slice s6 B.S.length p6, .slice a6 B.A.length q6, .slice t6 B.T.length r6]) w' (Below.refl _ _) rfl
        · intro f w' hb hd K hK
          dsimp only
          go_simp
          exact hK (.int .i64 (k : Nat)) w' (Below.refl _ _) rfl
        · intro f w' hb hd K hK
          have h0 : f 44 = (.agg #[.slice s6 B.S.length p6, .slice a6 B.A.length q6, .slice t6 B.T.length r6]) := hd 4 (by kernel_rfl)
          have h1 : f 45 = (.int .i64 (k : Nat)) := hd 5 (by kernel_rfl)
          have HO := Lib.hid (out_ok _ B (k : Nat) w' (S2.out.drew.more hb).g6)
          dsimp only
          go_simp
          go_wp2_with (go_at_call 26; refine HO.out.mono ?_; rintro e w2 ⟨lv, rfl, hE, hb2⟩)
          have q := hK lv w2 hb2 hE
          simp only [h0, h1] at q
          exact q
        · intro f w' hb hd K hK
          have h : EdgesAt w' (f 46) (outL B (k : Nat)) := hd 6 (by kernel_rfl)
          obtain ⟨xa, xc, hx, -⟩ := h
          rw [HM2.out] at hx
          dsimp only
          go_simp
          have q := hK (.int .i64 (m : Nat)) w' (Below.refl _ _) rfl
          simp only [hx] at q
          exact q
        · intro f w' hb hd K hK
          have nn := ne_false (m : Int)
          have h0 : f 43 = (.int .i64 (m : Nat)) := hd 3 (by kernel_rfl)
          have h1 : f 47 = (.int .i64 (m : Nat)) := hd 7 (by kernel_rfl)
          dsimp only
          go_simp
          have q := hK (.bool false) w' (Below.refl _ _) rfl
          simp only [h0, h1] at q
          exact q
      · intro f w' hb hr
        have h48 : f 48 = .bool false := hr 8 (by decide)
        have S3 := Lib.hid (S2.out.more hb)
        clear hr hb
        dsimp only
        rw [h48]
        generalize f 40 = x40
        generalize f 41 = x41
        generalize f 42 = x42
        generalize f 43 = x43
        generalize f 44 = x44
        generalize f 45 = x45
        generalize f 46 = x46
        generalize f 47 = x47
        go_wp2_with fail
        clear c0 c1 c2 d0 d1 d2
        go_roundg (gk - 1)
        case measure => omega
        case rel => exact ⟨k + 1, _, by omega, by simp, HOL.out, HOT.out, S3.out⟩
    · obtain rfl : gk = 0 := by omega
      obtain rfl : k = n := by omega
      obtain rfl : out = List.replicate k true := all_true hol hot
      have S2 := Lib.hid hS
      have c0 := cell_of_block hS.l1 0 _ rfl
      have c1 := cell_of_block hS.l1 1 _ rfl
      have c2 := cell_of_block hS.l1 2 _ rfl
      have d0 := cell_of_block hS.l6 0 _ rfl
      have d1 := cell_of_block hS.l6 1 _ rfl
      have d2 := cell_of_block hS.l6 2 _ rfl
      have e0 := cell_of_block hS.l4 0 _ rfl
      have e1 := cell_of_block hS.l4 1 _ rfl
      have e2 := cell_of_block hS.l4 2 _ rfl
      clear hS hot hol
      go_wp2_with fail
      refine region_rel (fun q => if q = 2 then u2 else undef)
        (fun f => { tmps := #[(.agg #[.slice sa g.S.length sc, .slice aa g.A.length ac, .slice ta g.T.length tc]), (.pointer (some ⟨w.heap.size, 0, none⟩)), f 2, (.int .i64 (k : Nat)), (.pointer (some ⟨w5.heap.size, 0, none⟩)), (.int .i64 0), (.pointer (some ⟨w7.heap.size, 0, none⟩)), (.slice (some ⟨w7.heap.size + 1, 0, none⟩) k k), (.int .i64 (k : Nat)), (.agg #[.slice sa g.S.length sc, .slice aa g.A.length ac, .slice ta g.T.length tc]), (.bool true), (.bool false), (.bool false), (.agg #[.slice sa g.S.length sc, .slice aa g.A.length ac, .slice ta g.T.length tc]), (.bool true), (.bool false), (.bool false), undef, (.agg #[.slice sa g.S.length sc, .slice aa g.A.length ac, .slice ta g.T.length tc]), (.int .i64 (k : Nat)), (.tuple #[(.agg #[.slice s4 g.S.length p4, .slice a4 g.A.length q4, .slice t4 g.T.length r4]), .int .i64 0]), (.int .i64 (k : Nat)), (.agg #[.slice sa g.S.length sc, .slice aa g.A.length ac, .slice ta g.T.length tc]), lv, (.tuple #[(.agg #[.slice s4 g.S.length p4, .slice a4 g.A.length q4, .slice t4 g.T.length r4]), .int .i64 0]), (.agg #[.slice s4 g.S.length p4, .slice a4 g.A.length q4, .slice t4 g.T.length r4]), (.int .i64 0), (.agg #[.slice sa g.S.length sc, .slice aa g.A.length ac, .slice ta g.T.length tc]), (.agg #[.slice s5 B1.S.length p5, .slice a5 B1.A.length q5, .slice t5 B1.T.length r5]), (.agg #[.slice s6 B.S.length p6, .slice a6 B.A.length q6, .slice t6 B.T.length r6]), (.int .i64 (k : Nat)), (.slice (some ⟨w7.heap.size + 1, 0, none⟩) k k), (.int .i64 (k : Nat)), (.int .i64 (k : Nat)), (.bool false), u35, u36, u37, u38, u39, u40, u41, u42, u43, u44, u45, u46, u47, u48, f 49, f 50, f 51, f 52, f 53, f 54, f 55, f 56, f 57, f 58, f 59, f 60, f 61, f 62, f 63, f 64, f 65, f 66, f 67, f 68, f 69, f 70, f 71, f 72, f 73, f 74, f 75, f 76], defers := [] }) (fun j => if j = 28 then 2 else j + 49)
        (relL [.eq (.int .i64 0), .eq (.bool true), .eq (.bool true), .eq (.agg #[.slice sa g.S.length sc, .slice aa g.A.length ac, .slice ta g.T.length tc]), .eq (.agg #[.slice s4 g.S.length p4, .slice a4 g.A.length q4, .slice t4 g.T.length r4]), .eq (.bool true), .eq (.bool true), .eq (.bool true), .eq (.agg #[.slice s6 B.S.length p6, .slice a6 B.A.length q6, .slice t6 B.T.length r6]), .eq (.bool true), .eq (.bool true), .eq (.bool true), .eq (.agg #[.slice sa g.S.length sc, .slice aa g.A.length ac, .slice ta g.T.length tc]), .eq (.slice (some ⟨w7.heap.size + 1, 0, none⟩) k k), .graph g, .eq (.agg #[.slice sa g.S.length sc, .slice aa g.A.length ac, .slice ta g.T.length tc]), .eq (.bool true), .eq (.bool true), .eq (.bool true), .eq (.agg #[.slice sa g.S.length sc, .slice aa g.A.length ac, .slice ta g.T.length tc]), .graph (keepG g []), .edges [], .eq (.int .i64 0), .eq (.bool true), .eq (.bool true), .eq (.bool true), .eq (.bool true), .eq (.bool true), .eq (.bool true)])
        rfl (by kernel_rfl) (fun i u w w' hb h => RK.mono _ hb h) (by kernel_rfl) (by kernel_rfl) ?_ ?_ ?_
      · intro j hj f v
        rcases j with _ | _ | _ | _ | _ | _ | _ | _ | _ | _ | _ | _ | _ | _ | _ | _ | _ | _ | _ | _ | _ | _ | _ | _ | _ | _ | _ | _ | _ | j
        all_goals first | rfl | (simp at hj; omega)
      · refine ⟨?_, ?_, ?_, ?_, ?_, ?_, ?_, ?_, ?_, ?_, ?_, ?_, ?_, ?_, ?_, ?_, ?_, ?_, ?_, ?_, ?_, ?_, ?_, ?_, ?_, ?_, ?_, ?_, ?_, trivial⟩
        · intro f w' hb hd K hK
          dsimp only
          go_simp
          exact hK (.int .i64 0) w' (Below.refl _ _) rfl
        · intro f w' hb hd K hK
          have h0 : f 49 = (.int .i64 0) := hd 0 (by kernel_rfl)
          dsimp only
          go_simp
          have q := hK (.bool true) w' (Below.refl _ _) rfl
          simp only [h0] at q
          exact q
        · intro f w' hb hd K hK
          have h0 : f 50 = .bool true := hd 1 (by kernel_rfl)
          dsimp only
          go_simp
          have q := hK (.bool true) w' (Below.refl _ _) rfl
          simp only [h0] at q
          exact q
        · intro f w' hb hd K hK
          have hg : f 51 = .bool true := hd 2 (by kernel_rfl)
          have x0 := bkeep hb c0
          have x1 := bkeep hb c1
          have x2 := bkeep hb c2
          dsimp only
          go_simp
          have q := hK (.agg #[.slice sa g.S.length sc, .slice aa g.A.length ac, .slice ta g.T.length tc]) w' (Below.refl _ _) rfl
          simp only [hg] at q
          exact q
        · intro f w' hb hd K hK
          have hg : f 51 = .bool true := hd 2 (by kernel_rfl)
          have x0 := bkeep hb e0
          have x1 := bkeep hb e1
          have x2 := bkeep hb e2
          dsimp only
          go_simp
          have q := hK (.agg #[.slice s4 g.S.length p4, .slice a4 g.A.length q4, .slice t4 g.T.length r4]) w' (Below.refl _ _) rfl
          simp only [hg] at q
          exact q
        · intro f w' hb hd K hK
          have hg : f 51 = .bool true := hd 2 (by kernel_rfl)
          have h0 : f 52 = (.agg #[.slice sa g.S.length sc, .slice aa g.A.length ac, .slice ta g.T.length tc]) := hd 3 (by kernel_rfl)
          have h1 : f 53 = (.agg #[.slice s4 g.S.length p4, .slice a4 g.A.length q4, .slice t4 g.T.length r4]) := hd 4 (by kernel_rfl)
          have HO := Lib.hid (graphs_same _ _ g w' (S2.out.drew.more hb).g1 (S2.out.drew.more hb).g4)
          dsimp only
          go_simp
          go_wp2_with (go_at_call 23; refine HO.out.mono ?_; rintro e w2 ⟨rfl, hb2⟩)
          have q := hK (.bool true) w2 hb2 rfl
          simp only [hg, h0, h1] at q
          exact q
        · intro f w' hb hd K hK
          have h0 : f 51 = .bool true := hd 2 (by kernel_rfl)
          have h1 : f 54 = .bool true := hd 5 (by kernel_rfl)
          dsimp only
          go_simp
          have q := hK (.bool true) w' (Below.refl _ _) rfl
          simp only [h0, h1] at q
          exact q
        · intro f w' hb hd K hK
          have h0 : f 55 = .bool true := hd 6 (by kernel_rfl)
          dsimp only
          go_simp
          have q := hK (.bool true) w' (Below.refl _ _) rfl
          simp only [h0] at q
          exact q
        · intro f w' hb hd K hK
          have hg : f 56 = .bool true := hd 7 (by kernel_rfl)
          have x0 := bkeep hb d0
          have x1 := bkeep hb d1
          have x2 := bkeep hb d2
          dsimp only
          go_simp
          have q := hK (.agg #[.slice s6 B.S.length p6, .slice a6 B.A.length q6, .slice t6 B.T.length r6]) w' (Below.refl _ _) rfl
          simp only [hg] at q
          exact q
        · intro f w' hb hd K hK
          have hg : f 56 = .bool true := hd 7 (by kernel_rfl)
          have h0 : f 57 = (.agg #[.slice s6 B.S.length p6, .slice a6 B.A.length q6, .slice t6 B.T.length r6]) := hd 8 (by kernel_rfl)
          have HO := Lib.hid ((by have q := right_ok _ B w' (S2.out.drew.more hb).g6; rw [P2.out] at q; exact q : Calls Try.prog 28 #[(.agg #[.slice s6 B.S.length p6, .slice a6 B.A.length q6, .slice t6 B.T.length r6])] w' (fun e w'' => e = .returned (.bool true) ∧ Below w'.heap.size w' w'')))
          dsimp only
          go_simp
          go_wp2_with (go_at_call 28; refine HO.out.mono ?_; rintro e w2 ⟨rfl, hb2⟩)
          have q := hK (.bool true) w2 hb2 rfl
          simp only [hg, h0] at q
          exact q
        · intro f w' hb hd K hK
          have h0 : f 56 = .bool true := hd 7 (by kernel_rfl)
          have h1 : f 58 = .bool true := hd 9 (by kernel_rfl)
          dsimp only
          go_simp
          have q := hK (.bool true) w' (Below.refl _ _) rfl
          simp only [h0, h1] at q
          exact q
        · intro f w' hb hd K hK
          have h0 : f 59 = .bool true := hd 10 (by kernel_rfl)
          dsimp only
          go_simp
          have q := hK (.bool true) w' (Below.refl _ _) rfl
          simp only [h0] at q
          exact q
        · intro f w' hb hd K hK
          have hg : f 60 = .bool true := hd 11 (by kernel_rfl)
          have x0 := bkeep hb c0
          have x1 := bkeep hb c1
          have x2 := bkeep hb c2
          dsimp only
          go_simp
          have q := hK (.agg #[.slice sa g.S.length sc, .slice aa g.A.length ac, .slice ta g.T.length tc]) w' (Below.refl _ _) rfl
          simp only [hg] at q
          exact q
        · intro f w' hb hd K hK
          have hg : f 60 = .bool true := hd 11 (by kernel_rfl)
          dsimp only
          go_simp
          have q := hK (.slice (some ⟨w7.heap.size + 1, 0, none⟩) k k) w' (Below.refl _ _) rfl
          simp only [hg] at q
          exact q
        · intro f w' hb hd K hK
          have hg : f 60 = .bool true := hd 11 (by kernel_rfl)
          have h0 : f 61 = (.agg #[.slice sa g.S.length sc, .slice aa g.A.length ac, .slice ta g.T.length tc]) := hd 12 (by kernel_rfl)
          have h1 : f 62 = (.slice (some ⟨w7.heap.size + 1, 0, none⟩) k k) := hd 13 (by kernel_rfl)
          have HO := Lib.hid ((by have q := keep_ok _ _ g (List.replicate k true) w' (S2.out.drew.more hb).g1 (boolsAt_block (n := k) (S2.out.drew.more hb).bo (by simp) k) (by simp; omega); rw [P4.out] at q; exact q : Calls Try.prog 36 #[(.agg #[.slice sa g.S.length sc, .slice aa g.A.length ac, .slice ta g.T.length tc]), (.slice (some ⟨w7.heap.size + 1, 0, none⟩) k k)] w' (GraphBack w' g)))
          dsimp only
          go_simp
          go_wp2_with (go_at_call 36; refine HO.out.mono ?_; rintro e w2 ⟨lv, rfl, hE, hb2⟩)
          have q := hK lv w2 hb2 hE
          simp only [hg, h0, h1] at q
          exact q
        · intro f w' hb hd K hK
          have hg : f 60 = .bool true := hd 11 (by kernel_rfl)
          have x0 := bkeep hb c0
          have x1 := bkeep hb c1
          have x2 := bkeep hb c2
          dsimp only
          go_simp
          have q := hK (.agg #[.slice sa g.S.length sc, .slice aa g.A.length ac, .slice ta g.T.length tc]) w' (Below.refl _ _) rfl
          simp only [hg] at q
          exact q
        · intro f w' hb hd K hK
          have hg : f 60 = .bool true := hd 11 (by kernel_rfl)
          have h0 : GraphAt w' (f 63) g := hd 14 (by kernel_rfl)
          have h1 : f 64 = (.agg #[.slice sa g.S.length sc, .slice aa g.A.length ac, .slice ta g.T.length tc]) := hd 15 (by kernel_rfl)
          have HO := Lib.hid (graphs_same _ _ g w' h0 (S2.out.drew.more hb).g1)
          clear h0
          dsimp only
          go_simp
          go_wp2_with (go_at_call 23; refine HO.out.mono ?_; rintro e w2 ⟨rfl, hb2⟩)
          have q := hK (.bool true) w2 hb2 rfl
          simp only [hg, h1] at q
          exact q
        · intro f w' hb hd K hK
          have h0 : f 60 = .bool true := hd 11 (by kernel_rfl)
          have h1 : f 65 = .bool true := hd 16 (by kernel_rfl)
          dsimp only
          go_simp
          have q := hK (.bool true) w' (Below.refl _ _) rfl
          simp only [h0, h1] at q
          exact q
        · intro f w' hb hd K hK
          have h0 : f 66 = .bool true := hd 17 (by kernel_rfl)
          dsimp only
          go_simp
          have q := hK (.bool true) w' (Below.refl _ _) rfl
          simp only [h0] at q
          exact q
        · intro f w' hb hd K hK
          have hg : f 67 = .bool true := hd 18 (by kernel_rfl)
          have x0 := bkeep hb c0
          have x1 := bkeep hb c1
          have x2 := bkeep hb c2
          dsimp only
          go_simp
          have q := hK (.agg #[.slice sa g.S.length sc, .slice aa g.A.length ac, .slice ta g.T.length tc]) w' (Below.refl _ _) rfl
          simp only [hg] at q
          exact q
        · intro f w' hb hd K hK
          have hg : f 67 = .bool true := hd 18 (by kernel_rfl)
          have h0 : f 68 = (.agg #[.slice sa g.S.length sc, .slice aa g.A.length ac, .slice ta g.T.length tc]) := hd 19 (by kernel_rfl)
          have HO := Lib.hid (keep_ok _ _ g [] w' (S2.out.drew.more hb).g1 (boolsAt_nil w') (by decide))
          dsimp only
          go_simp
          go_wp2_with (go_at_call 36; refine HO.out.mono ?_; rintro e w2 ⟨lv, rfl, hE, hb2⟩)
          have q := hK lv w2 hb2 hE
          simp only [hg, h0] at q
          exact q
        · intro f w' hb hd K hK
          have hg : f 67 = .bool true := hd 18 (by kernel_rfl)
          have h0 : GraphAt w' (f 69) (keepG g []) := hd 20 (by kernel_rfl)
          have HO := Lib.hid ((by have q := all_any _ (keepG g []) w' h0; rw [P5.out] at q; exact q : Calls Try.prog 32 #[f 69] w' (EdgesBack w' [])))
          clear h0
          dsimp only
          go_simp
          go_wp2_with (go_at_call 32; refine HO.out.mono ?_; rintro e w2 ⟨lv, rfl, hE, hb2⟩)
          have q := hK lv w2 hb2 hE
          simp only [hg] at q
          exact q
        · intro f w' hb hd K hK
          have hg : f 67 = .bool true := hd 18 (by kernel_rfl)
          have h : EdgesAt w' (f 70) [] := hd 21 (by kernel_rfl)
          obtain ⟨xa, xc, hx, -⟩ := h
          rw [List.length_nil] at hx
          dsimp only
          go_simp
          have q := hK (.int .i64 0) w' (Below.refl _ _) rfl
          simp only [hx, hg] at q
          exact q
        · intro f w' hb hd K hK
          have hg : f 67 = .bool true := hd 18 (by kernel_rfl)
          have h0 : f 71 = (.int .i64 0) := hd 22 (by kernel_rfl)
          dsimp only
          go_simp
          have q := hK (.bool true) w' (Below.refl _ _) rfl
          simp only [hg, h0] at q
          exact q
        · intro f w' hb hd K hK
          have h0 : f 67 = .bool true := hd 18 (by kernel_rfl)
          have h1 : f 72 = .bool true := hd 23 (by kernel_rfl)
          dsimp only
          go_simp
          have q := hK (.bool true) w' (Below.refl _ _) rfl
          simp only [h0, h1] at q
          exact q
        · intro f w' hb hd K hK
          have h0 : f 73 = .bool true := hd 24 (by kernel_rfl)
          dsimp only
          go_simp
          have q := hK (.bool true) w' (Below.refl _ _) rfl
          simp only [h0] at q
          exact q
        · intro f w' hb hd K hK
          have hg : f 74 = .bool true := hd 25 (by kernel_rfl)
          have HO := Lib.hid (known14 w')
          dsimp only
          go_simp
          go_wp2_with (go_at_call 20; refine HO.out.mono ?_; rintro e w2 ⟨rfl, hb2⟩)
          have q := hK (.bool true) w2 hb2 rfl
          simp only [hg] at q
          exact q
        · intro f w' hb hd K hK
          have h0 : f 74 = .bool true := hd 25 (by kernel_rfl)
          have h1 : f 75 = .bool true := hd 26 (by kernel_rfl)
          dsimp only
          go_simp
          have q := hK (.bool true) w' (Below.refl _ _) rfl
          simp only [h0, h1] at q
          exact q
        · intro f w' hb hd K hK
          have h0 : f 76 = .bool true := hd 27 (by kernel_rfl)
          dsimp only
          go_simp
          have q := hK (.bool true) w' (Below.refl _ _) rfl
          simp only [h0] at q
          exact q
      · intro f w' hb hr
        have h2 : f 2 = .bool true := hr 28 (by decide)
        have HB2 := Lib.hid (S2.out.below.trans (hb.mono S2.out.below.size))
        clear hr hb
        dsimp only
        rw [h2]
        generalize f 49 = x49
        generalize f 50 = x50
        generalize f 51 = x51
        generalize f 52 = x52
        generalize f 53 = x53
        generalize f 54 = x54
        generalize f 55 = x55
        generalize f 56 = x56
        generalize f 57 = x57
        generalize f 58 = x58
        generalize f 59 = x59
        generalize f 60 = x60
        generalize f 61 = x61
        generalize f 62 = x62
        generalize f 63 = x63
        generalize f 64 = x64
        generalize f 65 = x65
        generalize f 66 = x66
        generalize f 67 = x67
        generalize f 68 = x68
        generalize f 69 = x69
        generalize f 70 = x70
        generalize f 71 = x71
        generalize f 72 = x72
        generalize f 73 = x73
        generalize f 74 = x74
        generalize f 75 = x75
        generalize f 76 = x76
        go_wp2_with fail
        go_ret
        exact ⟨rfl, HB2.out⟩
end Go.Proofs.Ytnlaonppgebpoaa
