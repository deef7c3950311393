/-
  spinnakerlaw19.LassoLong: the walk. (Written by gen_lassolong.py.)
-/
import Derived.Test.YtnlaonppgebpoaaLawCycles
import Derived.Test.YtnlaonppgebpoaaFound19
namespace Go.Proofs.Ytnlaonppgebpoaa
open Go.RowKit

set_option maxRecDepth 100000 in
set_option maxHeartbeats 32000000 in
theorem lassoLong (v : Value) (strong : Bool) (g : Gr) (en : List (List Bool)) (ag : Int) (w : World) (h : TabArg w v g en ag) :
    Calls Try.prog 19 #[v, .bool strong] w fun e w' => e = .returned (.bool true) ∧ Below w.heap.size w w' := by
  have HON := Lib.hid (fun (w' : World) (hb : Below w.heap.size w w') => once_ok v g en ag w' (h.below hb))
  obtain ⟨sa, aa, ta, sc, ac, tc, ua, uc, rfl, hg, hu⟩ := h.var
  have S0 := Lib.hid (BxL.start w #[.slice sa g.S.length sc, .slice aa g.A.length ac, .slice ta g.T.length tc, .slice ua en.length uc, .int .i64 ag] 55)
  cases hl : onceB g en ag
  · rw [hl] at HON
    clear h hg hu hl
    go_enter Try.func19, Try.ntmps19
    go_wp2_with (first
      | (go_at_call 66; refine (HON.out _ S0.out.below).mono ?_; rintro e w1 ⟨rfl, hb⟩; have S1 := Lib.hid (S0.out.more hb); clear hb)
      | (go_at_call 67; refine (known19 _).mono ?_; rintro e w2 ⟨rfl, hb⟩; have S2 := Lib.hid (S1.out.more hb); clear hb))
    go_ret
    exact ⟨rfl, S2.out.below⟩
  rw [hl] at HON
  have hL := onceB_spec hl
  have hRT := rtB_rt hL.2.2.2.2.2.1
  have ho : OnceP g := hL.2.2.2.2.2.2.once
  have hGA : GraphAt w (.agg #[.slice sa g.S.length sc, .slice aa g.A.length ac, .slice ta g.T.length tc]) g := hg.small (by omega) (by omega) (by omega)
  have hn : nodesN g ≤ 100000 := by have := nodesN_le (g := g); omega
  have hS : g.S.length ≤ 1000 := by omega
  have h0 : 0 ≤ ag := hRT.h0
  have hag : ag ≤ 20 := hL.2.2.2.2.1
  obtain ⟨mode, hm⟩ : ∃ mode : Int, mode = if strong = true then 2 else 1 := ⟨_, rfl⟩
  have hmm : mode = 1 ∨ mode = 2 := by rw [hm]; cases strong <;> simp
  have HPT : (findL g en ag mode).length ≤ 1000000 := findL_len (by omega) hn
  have HF := Lib.hid (fun (w' : World) (hb : Below w.heap.size w w') => rfind_ok _ _ g en ag mode w' (hGA.below hb) (hu.below hb) hn (by omega))
  have HC := Lib.hid (fun (w' : World) (hb : Below w.heap.size w w') (pv : Value) (hp : IntsAt w' pv (findL g en ag mode)) => lcycle_ok _ _ pv g en ag mode (findL g en ag mode) w' (hGA.below hb) (hu.below hb) hp HPT hn (gdG_ok hS ho))
  have LG := long_ok (en := en) (mode := mode) (part := findL g en ag mode) h0 (by omega) ho
  clear h hg hu hl hL hGA hn hS ho hRT hmm
  generalize (walkG g en ag mode (findL g en ag mode)).2.1 = WL at *
  generalize goodB g en ag mode (findL g en ag mode) = GD at *
  generalize findL g en ag mode = PT at *
  have LA := Lib.hid LG.ags
  have LN := Lib.hid LG.ne
  have ll := LG.len
  have hp1 : (ag + 1) * (PT.length : Int) ≤ 21 * 1000000 := Int.mul_le_mul (by omega) (by omega) (by omega) (by omega)
  have hp0 : 0 ≤ (ag + 1) * (PT.length : Int) := Int.mul_nonneg (by omega) (by omega)
  have hwl : WL.length ≤ 21000000 := by omega
  clear LG
  cases strong
  all_goals
    first | rw [if_pos rfl] at hm | rw [if_neg (by simp)] at hm
    subst hm
    go_enter Try.func19, Try.ntmps19
    go_wp2_with (first
      | (go_at_call 68; refine (HC.out _ S2.out.below _ I2.out).mono ?_; rintro e w3 ⟨rv, rfl, hi, hb⟩; obtain ⟨ra, rc, rfl, hcc⟩ := id hi; have HCC := Lib.hid hcc; have S3 := Lib.hid (S2.out.more hb); clear c0 c1 c2 c3 c4; have c0 := cell_of_block S3.out.blk 0 _ rfl; have c1 := cell_of_block S3.out.blk 1 _ rfl; have c2 := cell_of_block S3.out.blk 2 _ rfl; have c3 := cell_of_block S3.out.blk 3 _ rfl; have c4 := cell_of_block S3.out.blk 4 _ rfl; clear hb hi hcc)
      | (go_at_call 59; refine (HF.out _ S1.out.below).mono ?_; rintro e w2 ⟨rv, rfl, hi, hb⟩; obtain ⟨pa, pc, rfl, hpp⟩ := id hi; have HPP := Lib.hid hpp; have I2 := Lib.hid hi; have S2 := Lib.hid (S1.out.more hb); clear c0 c1 c2 c3 c4; have c0 := cell_of_block S2.out.blk 0 _ rfl; have c1 := cell_of_block S2.out.blk 1 _ rfl; have c2 := cell_of_block S2.out.blk 2 _ rfl; have c3 := cell_of_block S2.out.blk 3 _ rfl; have c4 := cell_of_block S2.out.blk 4 _ rfl; clear hb hi hpp)
      | (go_at_call 66; refine (HON.out _ S0.out.below).mono ?_; rintro e w1 ⟨rfl, hb⟩; have S1 := Lib.hid (S0.out.more hb); have c0 := cell_of_block S1.out.blk 0 _ rfl; have c1 := cell_of_block S1.out.blk 1 _ rfl; have c2 := cell_of_block S1.out.blk 2 _ rfl; have c3 := cell_of_block S1.out.blk 3 _ rfl; have c4 := cell_of_block S1.out.blk 4 _ rfl; clear hb))
    clear c0 c1 c2 c3 HPP
    go_loopg [9] WL.length (fun fu c wr => ∃ k : Nat, k + fu = WL.length ∧ c = .int .i64 k ∧ Hid (Below w3.heap.size w3 wr))
    case atStart => exact ⟨0, by omega, rfl, Lib.hid (Below.refl _ _)⟩
    case round =>
      obtain ⟨k, hk, rfl, HBR⟩ := hrel
      by_cases hlt : k < WL.length
      · have z1 : (k : Int) < (WL.length : Int) := by omega
        obtain ⟨q0, q1⟩ := LA.out k hlt
        obtain ⟨b1, o1, rfl, d1⟩ := HCC.out k hlt
        have d1 := bkeep HBR.out d1
        have d4 := bkeep HBR.out c4
        clear c4 hp0 hp1 ll
        generalize WL.getD k 0 = x at *
        have n1 : decide (x < 0) = false := decide_eq_false (by omega)
        have n2 : decide (ag ≤ x) = false := decide_eq_false (by omega)
        go_wp2_with fail
        go_quiet (fail)
        go_wp2_with fail
        go_roundg (WL.length - (k + 1))
        case measure => omega
        case rel => exact ⟨k + 1, by omega, by simp, Lib.hid (by first | exact HBR.out.drew | exact bdrewN HBR.out _)⟩
      · have hkk : k = WL.length := by omega
        subst hkk
        have S4 := Lib.hid (S3.out.more HBR.out)
        clear c4
        have c4 := cell_of_block S4.out.blk 4 _ rfl
        have y1 : decide ((WL.length : Int) ≤ (ag + 1) * (PT.length : Int)) = true := decide_eq_true ll
        cases GD
        · go_wp2_with (go_at_call 67; refine (known19 _).mono ?_; rintro e w5 ⟨rfl, hb⟩; have S5 := Lib.hid (S4.out.more hb); clear hb)
          go_ret
          exact ⟨rfl, S5.out.below⟩
        · have z0 := LN.out rfl
          have y2 : (0 : Int) < (WL.length : Int) := by omega
          go_wp2_with (go_at_call 67; refine (known19 _).mono ?_; rintro e w5 ⟨rfl, hb⟩; have S5 := Lib.hid (S4.out.more hb); clear hb)
          go_ret
          exact ⟨rfl, S5.out.below⟩
end Go.Proofs.Ytnlaonppgebpoaa
