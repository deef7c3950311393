/-
  spinnakerlaw17.SccOrder: the walk. (Written by gen_order.py.)
-/
import Derived.Test.YtnlaonppgebpoaaLaw17
import Derived.Test.YtnlaonppgebpoaaOrderLaw
namespace Go.Proofs.Ytnlaonppgebpoaa
open Go.RowKit

set_option maxRecDepth 100000 in
set_option maxHeartbeats 16000000 in
theorem sccOrder (v : Value) (g : Gr) (w : World) (hG : GraphArg w v g) :
    Calls Try.prog 10 #[v] w fun e w' => e = .returned (.bool true) ∧ Below w.heap.size w w' := by
  obtain ⟨sa, aa, ta, sc, ac, tc, rfl⟩ := hG.var
  have hs := varst_start w #[.slice sa g.S.length sc, .slice aa g.A.length ac, .slice ta g.T.length tc]
  have HL := Lib.hid (hG.below hs.below).light
  have HS := Lib.hid hs
  cases hlit : lit3 g.S.length g.T.length g.A.length
  · rw [hlit] at HL
    clear hG hs hlit
    go_enter Try.func10, Try.ntmps10
    go_wp2_with (first
      | (go_at_call 25; refine HL.out.mono ?_; rintro e w1 ⟨rfl, hb⟩; have S1 := Lib.hid (HS.out.more hb))
      | (go_at_call 41; refine (known17 _).mono ?_; rintro e w5 ⟨rfl, hb⟩; have S5 := Lib.hid (S1.out.more hb)))
    go_ret
    exact ⟨rfl, S5.out.below⟩
  rw [hlit] at HL
  have hAt := hG.at hlit
  have HR := Lib.hid (fun w' (hw : Below w.heap.size w w') => rright_ok _ g w' (hAt.below hw))
  cases hr : rightB g
  · rw [hr] at HR
    clear hG hs hlit hAt
    go_enter Try.func10, Try.ntmps10
    go_wp2_with (first
      | (go_at_call 25; refine HL.out.mono ?_; rintro e w1 ⟨rfl, hb⟩; have S1 := Lib.hid (HS.out.more hb); have c0 := cell_of_block S1.out.vg 0 _ rfl; have c1 := cell_of_block S1.out.vg 1 _ rfl; have c2 := cell_of_block S1.out.vg 2 _ rfl)
      | (go_at_call 29; refine (HR.out _ S1.out.below).mono ?_; rintro e w2 ⟨rfl, hb2⟩; have S2 := Lib.hid (S1.out.more hb2))
      | (go_at_call 41; refine (known17 _).mono ?_; rintro e w5 ⟨rfl, hb5⟩; have S5 := Lib.hid (S2.out.more hb5)))
    go_ret
    exact ⟨rfl, S5.out.below⟩
  rw [hr] at HR
  have hR := (rightB_iff g).1 hr
  have hsz := (lit3_spec hlit).1
  have hn1 : nodesN g ≤ 100 := by rw [nodesN_right hR]; omega
  have HAT := Lib.hid hAt
  have HP := Lib.hid (fun w' (hw : Below w.heap.size w w') => parts_back _ g w' (hAt.below hw) (by omega))
  have HN := Lib.hid (fun w' (hw : Below w.heap.size w w') => rnodes_ok _ g w' (hAt.below hw))
  have HA := Lib.hid (fun w' (hw : Below w.heap.size w w') => rall_ok _ g w' (hAt.below hw))
  have HGR := Lib.hid (fun w' (hw : Below w.heap.size w w') => groupsF_ok _ g w' (hAt.below hw) (by omega))
  have PL := Lib.hid (partsI_len g)
  have PG := Lib.hid (fun i (hi : i < nodesN g) => partsI_get hi)
  have NS := Lib.hid (fun i => next_step g i)
  have N0 := Lib.hid (show nextN g 0 = 0 from rfl)
  have GL := Lib.hid (groups_len g)
  have NL := Lib.hid (fun i => cnS_next_le (eqB (scF g)) i)
  have OE := Lib.hid (fun e (he : e ∈ allL g) => order_edge hR he)
  have RL := Lib.hid (fun fr => reachL_len hR fr)
  have AL : Hid ((allL g).length ≤ 1000000) := Lib.hid (by rw [allL_len hR]; exact hAt.sT)
  clear hG hs hlit hAt hr hR hsz
  obtain ⟨n, hn⟩ : ∃ n, nodesN g = n := ⟨_, rfl⟩
  rw [hn] at hn1 HN PL PG GL OE RL
  clear hn
  go_enter Try.func10, Try.ntmps10
  go_wp2_with (first
    | (go_at_call 25; refine HL.out.mono ?_; rintro e w1 ⟨rfl, hb⟩; have S1 := Lib.hid (HS.out.more hb); have c0 := cell_of_block S1.out.vg 0 _ rfl; have c1 := cell_of_block S1.out.vg 1 _ rfl; have c2 := cell_of_block S1.out.vg 2 _ rfl; clear hb)
    | (go_at_call 29; refine (HR.out _ S1.out.below).mono ?_; rintro e w2 ⟨rfl, hb⟩; have S2 := Lib.hid (S1.out.more hb); clear c0 c1 c2; have c0 := cell_of_block S2.out.vg 0 _ rfl; have c1 := cell_of_block S2.out.vg 1 _ rfl; have c2 := cell_of_block S2.out.vg 2 _ rfl; clear hb)
    | (go_at_call 43; refine (HP.out _ S2.out.below).mono ?_; rintro e w3 ⟨pv, rfl, hI, hb⟩; have I3 := Lib.hid hI; obtain ⟨pa, pc, rfl, -⟩ := hI; rw [PL.out]; have S3 := Lib.hid (S2.out.more hb); clear c0 c1 c2; have c0 := cell_of_block S3.out.vg 0 _ rfl; have c1 := cell_of_block S3.out.vg 1 _ rfl; have c2 := cell_of_block S3.out.vg 2 _ rfl; clear hb)
    | (go_at_call 31; refine (HN.out _ S3.out.below).mono ?_; rintro e w4 ⟨rfl, hb⟩; have S4 := Lib.hid (S3.out.more hb); have I4 := Lib.hid (I3.out.below hb); clear c0 c1 c2; have c0 := cell_of_block S4.out.vg 0 _ rfl; have c1 := cell_of_block S4.out.vg 1 _ rfl; have c2 := cell_of_block S4.out.vg 2 _ rfl; clear hb))
  obtain ⟨pa', pc', e0, hpc⟩ := I4.out
  rw [PL.out] at e0
  simp only [Value.slice.injEq, true_and] at e0
  obtain ⟨rfl, rfl⟩ := e0
  have HPC : Hid (∀ i, i < n → ∃ b off, pa = some ⟨b, off, none⟩ ∧ w4.cell? ⟨b, off + i, none⟩ = some (.int .i64 ((partN g i : Nat) : Int))) := Lib.hid (fun i hi => by
    obtain ⟨b, off, e1, e2⟩ := hpc i (by rw [PL.out]; exact hi)
    exact ⟨b, off, e1, by rw [e2, PG.out i hi]⟩)
  clear hpc
  go_loopg [5, 6] n (fun fu nx c wr => ∃ i : Nat, i + fu = n ∧ c = .int .i64 i ∧ nx = .int .i64 ((nextN g i : Nat) : Int) ∧ w4 = wr)
  case atStart => exact ⟨0, by omega, rfl, by rw [N0.out]; rfl, rfl⟩
  case round =>
    obtain ⟨i, hif, rfl, rfl, rfl⟩ := hrel
    by_cases hlt : i < n
    · obtain ⟨b, off, rfl, y⟩ := HPC.out i hlt
      have i1 : (i : Int) < (n : Int) := by omega
      obtain ⟨s1, s2⟩ := NS.out i
      have hnl : nextN g i ≤ i := NL.out i
      have HS2 := Lib.hid s2
      clear s2
      generalize partN g i = p at *
      obtain ⟨nx, hnx⟩ : ∃ z, nextN g i = z := ⟨_, rfl⟩
      rw [hnx] at s1 hnl HS2 ⊢
      clear hnx
      have j1 : ¬ (p : Int) < 0 := by omega
      have j2 : ¬ (nx : Int) < (p : Int) := by omega
      by_cases hpe : p = nx
      · have E := Lib.hid (show nextN g (i + 1) = nx + 1 by rw [HS2.out, if_pos hpe])
        have j3 : (p : Int) = (nx : Int) := by omega
        have j4 : IntKind.i64.wrap ((nx : Int) + 1) = (nx : Int) + 1 := IntWalk.i64_in _ (by omega)
        clear hpe
        go_wp2_with fail
        go_roundg (n - (i + 1))
        case measure => omega
        case rel => exact ⟨i + 1, by omega, by simp, by rw [E.out]; rfl, rfl⟩
      · have E := Lib.hid (show nextN g (i + 1) = nx by rw [HS2.out, if_neg hpe])
        have j3 : ¬ (p : Int) = (nx : Int) := by omega
        go_wp2_with fail
        go_roundg (n - (i + 1))
        case measure => omega
        case rel => exact ⟨i + 1, by omega, by simp, by rw [E.out], rfl⟩
    · obtain rfl : i = n := by omega
      go_wp2_with (go_at_call 33; refine (HA.out _ S4.out.below).mono ?_; rintro e w5 ⟨lv, rfl, hE, hb⟩; obtain ⟨la, lc, rfl, hE⟩ := hE; have HED := Lib.hid hE; have S5 := Lib.hid (S4.out.more hb); have HB5 := Lib.hid hb; clear hE hb)
      clear c0 c1 c2
      go_loopg [8] (allL g).length (fun fu c wr => ∃ k : Nat, k + fu = (allL g).length ∧ c = .int .i64 k ∧ Below w5.heap.size w5 wr)
      case atStart => exact ⟨0, by omega, rfl, Below.refl _ _⟩
      case round =>
        obtain ⟨k, hk, rfl, hb⟩ := hrel
        have hal := AL.out
        by_cases hlt2 : k < (allL g).length
        · obtain ⟨be, oe, rfl, e1, e2, e3⟩ := HED.out k hlt2
          have y1 := bkeep hb e1
          have y3 := bkeep hb e3
          have S6 := Lib.hid (S5.out.more hb)
          have c0 := cell_of_block S6.out.vg 0 _ rfl
          have c1 := cell_of_block S6.out.vg 1 _ rfl
          have c2 := cell_of_block S6.out.vg 2 _ rfl
          have i2 : (k : Int) < ((allL g).length : Int) := by omega
          obtain ⟨a, b, q1, q2, q3, q4, q5⟩ := OE.out _ (show (allL g).getD k (0, 0, 0) ∈ allL g by rw [List.getD_eq_getElem?_getD, List.getElem?_eq_getElem hlt2]; simp)
          rw [q1] at y1
          rw [q2] at y3
          have Q5 := Lib.hid q5
          have HB6 := Lib.hid hb
          clear e1 e2 e3 hb q1 q2 q5 hlt2
          generalize (allL g).length = m at *
          go_wp2_with fail
          refine region_rel (fun q => match q with | 9 => u9 | 61 => u61 | 62 => u62 | 63 => u63 | 64 => u64 | 65 => u65 | 66 => u66 | 67 => u67 | 68 => u68 | _ => undef)
            (fun f => { tmps := #[(.agg #[.slice sa g.S.length sc, .slice aa g.A.length ac, .slice ta g.T.length tc]), .pointer (some ⟨w.heap.size, 0, none⟩), u2, .slice pa i pc, .int .i64 (i : Nat), .int .i64 ((nextN g i : Nat) : Int), .int .i64 (i : Nat), .slice (some ⟨be, oe, none⟩) m lc, .int .i64 (k : Nat), f 9, (.agg #[.slice sa g.S.length sc, .slice aa g.A.length ac, .slice ta g.T.length tc]), .bool true, .bool false, .bool false, (.agg #[.slice sa g.S.length sc, .slice aa g.A.length ac, .slice ta g.T.length tc]), .bool true, .bool false, .bool false, undef, (.agg #[.slice sa g.S.length sc, .slice aa g.A.length ac, .slice ta g.T.length tc]), .slice pa i pc, (.agg #[.slice sa g.S.length sc, .slice aa g.A.length ac, .slice ta g.T.length tc]), .int .i64 (i : Nat), .slice pa i pc, .int .i64 (i : Nat), .int .i64 (i : Nat), .bool false, .int .i64 (i : Nat), .int .i64 (i : Nat), .bool false, u30, u31, u32, u33, u34, u35, u36, u37, u38, u39, u40, u41, u42, u43, u44, u45, u46, u47, u48, u49, u50, u51, u52, (.agg #[.slice sa g.S.length sc, .slice aa g.A.length ac, .slice ta g.T.length tc]), .slice (some ⟨be, oe, none⟩) m lc, .int .i64 (k : Nat), .slice (some ⟨be, oe, none⟩) m lc, .int .i64 (m : Nat), .bool true, u59, u60, f 61, f 62, f 63, f 64, f 65, f 66, f 67, f 68, u69, u70, u71, u72, u73, u74, u75, u76, u77, u78, u79, u80, u81, u82, u83, u84, u85, u86, u87, u88, u89, u90, u91, u92, u93, u94, undef, undef, undef, undef, undef, undef, undef, undef], defers := [] }) (fun j => if j = 8 then 9 else j + 61)
            (relL3 [.eq (.agg #[.slice sa g.S.length sc, .slice aa g.A.length ac, .slice ta g.T.length tc]), .eq (.slice (some ⟨be, oe, none⟩) m lc), .eq (.int .i64 (k : Nat)), .eq (.pointer (some ⟨be, oe + k * 3, none⟩)), .eq (.pointer (some ⟨be, oe + k * 3 + 2, none⟩)), .eq (.int .i64 (b : Nat)), .ints [(b : Int)], .bools (reachL g [(b : Int)]), .bools (reachL g [(b : Int)])])
            rfl (by kernel_rfl) (fun i u w w' hb h => RK3.mono _ hb h) (by kernel_rfl) (by kernel_rfl) ?_ ?_ ?_
          · intro j hj f v
            rcases j with _ | _ | _ | _ | _ | _ | _ | _ | _ | j
            all_goals first | rfl | (simp at hj; omega)
          · refine ⟨?_, ?_, ?_, ?_, ?_, ?_, ?_, ?_, ?_, trivial⟩
            · intro f w' hb hd K hK
              have e0 := bkeep hb c0
              have e1 := bkeep hb c1
              have e2 := bkeep hb c2
              dsimp only
              go_simp
              exact hK (.agg #[.slice sa g.S.length sc, .slice aa g.A.length ac, .slice ta g.T.length tc]) w' (Below.refl _ _) rfl
            · intro f w' hb hd K hK
              dsimp only
              go_simp
              exact hK (.slice (some ⟨be, oe, none⟩) m lc) w' (Below.refl _ _) rfl
            · intro f w' hb hd K hK
              dsimp only
              go_simp
              exact hK (.int .i64 (k : Nat)) w' (Below.refl _ _) rfl
            · intro f w' hb hd K hK
              have h0 : f 62 = (.slice (some ⟨be, oe, none⟩) m lc) := hd 1 (by kernel_rfl)
              have h1 : f 63 = (.int .i64 (k : Nat)) := hd 2 (by kernel_rfl)
              dsimp only
              go_simp
              have q := hK (.pointer (some ⟨be, oe + k * 3, none⟩)) w' (Below.refl _ _) rfl
              simp only [h0, h1] at q
              exact q
            · intro f w' hb hd K hK
              have h0 : f 64 = (.pointer (some ⟨be, oe + k * 3, none⟩)) := hd 3 (by kernel_rfl)
              dsimp only
              go_simp
              have q := hK (.pointer (some ⟨be, oe + k * 3 + 2, none⟩)) w' (Below.refl _ _) rfl
              simp only [h0] at q
              exact q
            · intro f w' hb hd K hK
              have h0 : f 65 = (.pointer (some ⟨be, oe + k * 3 + 2, none⟩)) := hd 4 (by kernel_rfl)
              have y := bkeep hb y3
              dsimp only
              go_simp
              have q := hK (.int .i64 (b : Nat)) w' (Below.refl _ _) rfl
              simp only [h0] at q
              exact q
            · intro f w' hb hd K hK
              have h0 : f 66 = (.int .i64 (b : Nat)) := hd 5 (by kernel_rfl)
              dsimp only
              go_simp
              have q := hK _ _ (balloc w' (.cells #[.int .i64 (b : Nat)] 3)) (intsAt_block (xs := [(b : Int)]) (heap_alloc_new w' _) rfl 1)
              simp only [h0] at q
              exact q
            · intro f w' hb hd K hK
              have h0 : f 61 = (.agg #[.slice sa g.S.length sc, .slice aa g.A.length ac, .slice ta g.T.length tc]) := hd 0 (by kernel_rfl)
              have h1 : IntsAt w' (f 67) [(b : Int)] := hd 6 (by kernel_rfl)
              have HO := Lib.hid (rreach_ok _ _ g [(b : Int)] w' (HAT.out.below (S6.out.drew.more hb).below) h1 (by simp))
              clear h1
              dsimp only
              go_simp
              go_wp2_with (go_at_call 40; refine HO.out.mono ?_; rintro e w2 ⟨lv, rfl, hE, hb2⟩)
              have q := hK lv w2 hb2 hE
              simp only [h0] at q
              exact q
            · intro f w' hb hd K hK
              have h0 : BoolsAt w' (f 68) (reachL g [(b : Int)]) := hd 7 (by kernel_rfl)
              dsimp only
              go_simp
              exact hK (f 68) w' (Below.refl _ _) h0
          · intro f w' hb hr
            have HB9 : BoolsAt w' (f 9) (reachL g [(b : Int)]) := hr 8 (by decide)
            obtain ⟨ra, rc, e9, h9⟩ := HB9
            rw [RL.out] at e9
            obtain ⟨br, orr, rfl, c9⟩ := h9 a (by rw [RL.out]; exact q3)
            have Q5 := Q5.out
            have HB7 := Lib.hid (HB6.out.trans ((show Below wr.heap.size wr w' from ⟨hb.os, hb.tape, hb.output, hb.size, hb.block⟩).mono HB6.out.size))
            have y1' := bkeep hb y1
            have y3' := bkeep hb y3
            obtain ⟨bp1, op1, rfl, p1⟩ := HPC.out a q3
            obtain ⟨bp2, op2, e2, p2⟩ := HPC.out b q4
            simp only [Option.some.injEq, Addr.mk.injEq, and_true] at e2
            obtain ⟨rfl, rfl⟩ := e2
            have hb47 := HB5.out.trans (HB7.out.mono HB5.out.size)
            have p1' := bkeep hb47 p1
            have p2' := bkeep hb47 p2
            have j1 : (a : Int) < (i : Int) := by omega
            have j2 : (b : Int) < (i : Int) := by omega
            clear hr hb p1 p2 hb47 y1 y3 h9 c0 c1 c2
            (try (dsimp only))
            rw [e9]
            generalize f 61 = v61 at *
            generalize f 62 = v62 at *
            generalize f 63 = v63 at *
            generalize f 64 = v64 at *
            generalize f 65 = v65 at *
            generalize f 66 = v66 at *
            generalize f 67 = v67 at *
            generalize f 68 = v68 at *
            clear e9
            by_cases hpe : partN g a = partN g b
            · rw [decide_eq_true hpe] at Q5
              rw [Q5] at c9
              have j3 : ((partN g a : Nat) : Int) = ((partN g b : Nat) : Int) := by rw [hpe]
              generalize partN g a = x at *
              generalize partN g b = y at *
              go_wp2_with fail
              (refine region_still (by kernel_rfl) (by kernel_rfl) ?_; (repeat still_step); refine wpStill_nil ?_)
              go_wp2_with fail
              go_roundg (m - (k + 1))
              case measure => omega
              case rel => exact ⟨k + 1, by omega, by simp, by first | exact HB7.out | exact HB7.out.drew⟩
            · rw [decide_eq_false hpe] at Q5
              rw [Q5] at c9
              have j3 : ¬ ((partN g a : Nat) : Int) = ((partN g b : Nat) : Int) := by omega
              generalize partN g a = x at *
              generalize partN g b = y at *
              go_wp2_with fail
              (refine region_still (by kernel_rfl) (by kernel_rfl) ?_; (repeat still_step); refine wpStill_nil ?_)
              go_wp2_with fail
              go_roundg (m - (k + 1))
              case measure => omega
              case rel => exact ⟨k + 1, by omega, by simp, by first | exact HB7.out | exact HB7.out.drew⟩
        · obtain rfl : k = (allL g).length := by omega
          have S6 := Lib.hid (S5.out.more hb)
          have c0 := cell_of_block S6.out.vg 0 _ rfl
          have c1 := cell_of_block S6.out.vg 1 _ rfl
          have c2 := cell_of_block S6.out.vg 2 _ rfl
          go_wp2_with (first
            | (go_at_call 46; refine (HGR.out _ S6.out.below).mono ?_; rintro e w7 ⟨gv, rfl, hR, hb7⟩; obtain ⟨ga, gc, rfl, -⟩ := hR; rw [GL.out]; have S7 := Lib.hid (S6.out.more hb7); clear hb7)
            | (go_at_call 41; refine (known17 _).mono ?_; rintro e w8 ⟨rfl, hb8⟩; have S8 := Lib.hid (S7.out.more hb8); clear hb8))
          go_ret
          exact ⟨rfl, S8.out.below⟩
end Go.Proofs.Ytnlaonppgebpoaa
