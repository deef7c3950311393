/-
  spinnakerlaw19.LassoCycles: the walk. (Written by gen_lassocyc.py.)
-/
import Derived.Test.YtnlaonppgebpoaaKnown19
namespace Go.Proofs.Ytnlaonppgebpoaa
open Go.RowKit

/-- a boxed parameter -/
structure BxL (w wr : World) (c : Array Value) (t : TypeId) : Prop where
  below : Below w.heap.size w wr
  blk : wr.heap[w.heap.size]? = some (.cells c t (0, 0))
theorem BxL.start (w : World) (c : Array Value) (t : TypeId) : BxL w (w.alloc (.cells c t)) c t := ⟨balloc w _, heap_alloc_new w _⟩
theorem BxL.more {w wr w' : World} {c : Array Value} {t : TypeId} (h : BxL w wr c t) (hb : Below wr.heap.size wr w') : BxL w w' c t := ⟨h.below.trans (hb.mono h.below.size), bheap hb h.blk⟩
theorem nodesN_le {g : Gr} : nodesN g ≤ g.S.length := by
  cases h : rightB g
  · rw [nodesN_not h]; omega
  · rw [nodesN_right ((rightB_iff g).1 h)]; omega
theorem walkG_len {g : Gr} {en : List (List Bool)} {ag mode : Int} {part : List Int} (hS : g.S.length ≤ 1000) (ho : OnceP g) : (walkG g en ag mode part).2.1.length ≤ 101000 ∧ (walkG g en ag mode part).2.2.length ≤ 101001 := by
  by_cases hg : goodB g en ag mode part = true
  · have e := goodB_nat hg
    have h := LP.of (by omega) ho (e ▸ hg)
    obtain ⟨h1, -, -, h2⟩ := walk_inv h (leastL_mem h.ne)
    have h3 := part_len h
    have h4 := nodesN_le (g := g)
    have h5 := h.hA
    have h6 : (ag.toNat + 1) * part.length ≤ 101 * 1000 := Nat.mul_le_mul (by omega) (by omega)
    have h7 := h1.len
    unfold walkG
    rw [if_pos hg]
    omega
  · unfold walkG
    rw [if_neg hg]; simp

set_option maxRecDepth 100000 in
set_option maxHeartbeats 64000000 in
theorem lassoCycles (v u : Value) (g : Gr) (en : List (List Bool)) (ag mode : Int) (part : List Int) (w : World) (h : TabArg w v g en ag) (hI : IntsAt w u part) (hll : part.length ≤ 9223372036854775807) :
    Calls Try.prog 17 #[v, .int .i64 mode, u] w fun e w' => e = .returned (.bool true) ∧ Below w.heap.size w w' := by
  have HON := Lib.hid (fun (w' : World) (hb : Below w.heap.size w w') => once_ok v g en ag w' (h.below hb))
  obtain ⟨sa, aa, ta, sc, ac, tc, ua, uc, rfl, hg, hu⟩ := h.var
  have S0 := Lib.hid (BxL.start w #[.slice sa g.S.length sc, .slice aa g.A.length ac, .slice ta g.T.length tc, .slice ua en.length uc, .int .i64 ag] 55)
  have hIB := hI
  obtain ⟨pa, pc, rfl, -⟩ := id hI
  cases hl : onceB g en ag
  · rw [hl] at HON
    clear h hg hu hl hI hIB
    go_enter Try.func17, Try.ntmps17
    go_wp2_with (first
      | (go_at_call 66; refine (HON.out _ S0.out.below).mono ?_; rintro e w1 ⟨rfl, hb⟩; have S1 := Lib.hid (S0.out.more hb); clear hb)
      | (go_at_call 67; refine (known19 _).mono ?_; rintro e w2 ⟨rfl, hb⟩; have S2 := Lib.hid (S1.out.more hb); clear hb))
    go_ret
    exact ⟨rfl, S2.out.below⟩
  rw [hl] at HON
  by_cases hpl : (60 : Int) < (part.length : Int)
  · clear h hg hu hl hI hIB
    go_enter Try.func17, Try.ntmps17
    go_wp2_with (first
      | (go_at_call 66; refine (HON.out _ S0.out.below).mono ?_; rintro e w1 ⟨rfl, hb⟩; have S1 := Lib.hid (S0.out.more hb); clear hb)
      | (go_at_call 67; refine (known19 _).mono ?_; rintro e w2 ⟨rfl, hb⟩; have S2 := Lib.hid (S1.out.more hb); clear hb))
    go_ret
    exact ⟨rfl, S2.out.below⟩
  have hL := onceB_spec hl
  have ho : OnceP g := hL.2.2.2.2.2.2.once
  have hGA : GraphAt w (.agg #[.slice sa g.S.length sc, .slice aa g.A.length ac, .slice ta g.T.length tc]) g := hg.small (by omega) (by omega) (by omega)
  have hn : nodesN g ≤ 100000 := by have := nodesN_le (g := g); omega
  have hS : g.S.length ≤ 1000 := by omega
  have HC := Lib.hid (fun (w' : World) (hb : Below w.heap.size w w') => lcycle_ok _ _ _ g en ag mode part w' (hGA.below hb) (hu.below hb) (hIB.below hb) (by omega) hn (gdG_ok hS ho))
  have HRC := Lib.hid (fun (w' : World) (hb : Below w.heap.size w w') => rcycle_ok _ _ _ g en ag mode part w' (hGA.below hb) (hu.below hb) (hIB.below hb) (by omega) hn (rd_ok hS ho))
  have HSP := Lib.hid (fun (w' : World) (hb : Below w.heap.size w w') => lstops_ok _ _ _ g en ag mode part w' (hGA.below hb) (hu.below hb) (hIB.below hb) (by omega) hn (gdG_ok hS ho))
  have HRS := Lib.hid (fun (w' : World) (hb : Below w.heap.size w w') => rstops_ok _ _ _ g en ag mode part w' (hGA.below hb) (hu.below hb) (hIB.below hb) (by omega) hn (rd_ok hS ho))
  rw [cyc_same (by omega) ho] at HRC
  rw [stops_same (by omega) ho] at HRS
  obtain ⟨hw1, hw2⟩ := walkG_len (en := en) (ag := ag) (mode := mode) (part := part) hS ho
  have HL1 := Lib.hid (Nat.le_trans hw1 (by omega : 101000 ≤ 1000000))
  have HL2 := Lib.hid (Nat.le_trans hw2 (by omega : 101001 ≤ 1000000))
  have hpl2 : (part.length : Int) ≤ 60 := by omega
  clear h hg hu hl hL hGA hn hS ho hI hIB hw1 hw2 hpl
  generalize (walkG g en ag mode part).2.1 = WL at *
  generalize (walkG g en ag mode part).2.2 = WT at *
  generalize goodB g en ag mode part = GD at *
  generalize part.length = pl at *
  go_enter Try.func17, Try.ntmps17
  go_wp2_with (first
    | (go_at_call 69; refine (HRC.out _ S2.out.below).mono ?_; rintro e w3 ⟨rv, rfl, ho, hb⟩; obtain ⟨rb, re, rfl⟩ := own_var ho; have I3 := Lib.hid (own_ints ho); have J3 := Lib.hid (I2.out.below hb); have S3 := Lib.hid (S2.out.more hb); clear hb ho)
    | (go_at_call 68; refine (HC.out _ S1.out.below).mono ?_; rintro e w2 ⟨rv, rfl, hi, hb⟩; obtain ⟨ra, rc, rfl, -⟩ := id hi; have I2 := Lib.hid hi; have S2 := Lib.hid (S1.out.more hb); clear c0 c1 c2 c3 c4; have c0 := cell_of_block S2.out.blk 0 _ rfl; have c1 := cell_of_block S2.out.blk 1 _ rfl; have c2 := cell_of_block S2.out.blk 2 _ rfl; have c3 := cell_of_block S2.out.blk 3 _ rfl; have c4 := cell_of_block S2.out.blk 4 _ rfl; clear hb hi)
    | (go_at_call 66; refine (HON.out _ S0.out.below).mono ?_; rintro e w1 ⟨rfl, hb⟩; have S1 := Lib.hid (S0.out.more hb); have c0 := cell_of_block S1.out.blk 0 _ rfl; have c1 := cell_of_block S1.out.blk 1 _ rfl; have c2 := cell_of_block S1.out.blk 2 _ rfl; have c3 := cell_of_block S1.out.blk 3 _ rfl; have c4 := cell_of_block S1.out.blk 4 _ rfl; clear hb))
  clear c0 c1 c2 c3 c4
  have c0 := cell_of_block S3.out.blk 0 _ rfl
  have c1 := cell_of_block S3.out.blk 1 _ rfl
  have c2 := cell_of_block S3.out.blk 2 _ rfl
  have c3 := cell_of_block S3.out.blk 3 _ rfl
  have c4 := cell_of_block S3.out.blk 4 _ rfl
  have hgd : (GD == GD) = true := by cases GD <;> rfl
  refine region_rel (fun q => match q with | 6 => .bool false | _ => undef)
    (fun f => { tmps := #[.agg #[.slice sa g.S.length sc, .slice aa g.A.length ac, .slice ta g.T.length tc, .slice ua en.length uc, .int .i64 ag], .int .i64 mode, .slice pa pl pc, .pointer (some ⟨w.heap.size, 0, none⟩), undef, undef, f 6, .slice ra WL.length rc, .bool GD, .slice rb WL.length re, .bool GD, .agg #[.slice sa g.S.length sc, .slice aa g.A.length ac, .slice ta g.T.length tc, .slice ua en.length uc, .int .i64 ag], .bool true, .bool false, .bool false, .slice pa pl pc, .int .i64 (pl : Nat), .bool (decide ((60 : Int) < (pl : Nat))), .bool (decide ((60 : Int) < (pl : Nat))), undef, .tuple #[.slice ra WL.length rc, .bool GD], .pointer (some ⟨w.heap.size, 0, none⟩), .agg #[.slice sa g.S.length sc, .slice aa g.A.length ac, .slice ta g.T.length tc], .pointer (some ⟨w.heap.size, 3, none⟩), .slice ua en.length uc, .pointer (some ⟨w.heap.size, 4, none⟩), .int .i64 ag, .int .i64 mode, .slice pa pl pc, .tuple #[.slice ra WL.length rc, .bool GD], .slice ra WL.length rc, .bool GD, .tuple #[.slice rb WL.length re, .bool GD], .pointer (some ⟨w.heap.size, 0, none⟩), .agg #[.slice sa g.S.length sc, .slice aa g.A.length ac, .slice ta g.T.length tc], .pointer (some ⟨w.heap.size, 3, none⟩), .slice ua en.length uc, .pointer (some ⟨w.heap.size, 4, none⟩), .int .i64 ag, .int .i64 mode, .slice pa pl pc, .tuple #[.slice rb WL.length re, .bool GD], .slice rb WL.length re, .bool GD, f 44, f 45, f 46, f 47, f 48, f 49, f 50, f 51, f 52, f 53, f 54, f 55, f 56, f 57, f 58, f 59, f 60, f 61, f 62, f 63, f 64, f 65, f 66, f 67, f 68, f 69, f 70, f 71, f 72, f 73, f 74, f 75], defers := [] }) (fun j => if j = 32 then 6 else j + 44)
    (relL [.eq (.slice ra WL.length rc), .eq (.slice rb WL.length re), .eq (.bool true), .eq (.bool true), .eq (.bool GD), .eq (.bool GD), .eq (.bool true), .eq (.bool true), .eq (.bool true), .eq (.pointer (some ⟨w.heap.size, 0, none⟩)), .eq (.agg #[.slice sa g.S.length sc, .slice aa g.A.length ac, .slice ta g.T.length tc]), .eq (.pointer (some ⟨w.heap.size, 3, none⟩)), .eq (.slice ua en.length uc), .eq (.pointer (some ⟨w.heap.size, 4, none⟩)), .eq (.int .i64 ag), .eq (.int .i64 mode), .eq (.slice pa pl pc), .ints WT, .eq (.pointer (some ⟨w.heap.size, 0, none⟩)), .eq (.agg #[.slice sa g.S.length sc, .slice aa g.A.length ac, .slice ta g.T.length tc]), .eq (.pointer (some ⟨w.heap.size, 3, none⟩)), .eq (.slice ua en.length uc), .eq (.pointer (some ⟨w.heap.size, 4, none⟩)), .eq (.int .i64 ag), .eq (.int .i64 mode), .eq (.slice pa pl pc), .ints WT, .eq (.bool true), .eq (.bool true), .eq (.bool true), .eq (.bool true), .eq (.bool true), .eq (.bool true)])
    rfl (by kernel_rfl) (fun i u w w' hb h => RK.mono _ hb h) (by kernel_rfl) (by kernel_rfl) ?_ ?_ ?_
  · intro j hj f v
    rcases j with _ | _ | _ | _ | _ | _ | _ | _ | _ | _ | _ | _ | _ | _ | _ | _ | _ | _ | _ | _ | _ | _ | _ | _ | _ | _ | _ | _ | _ | _ | _ | _ | _ | j
    all_goals first | rfl | (simp at hj; omega)
  · refine ⟨?_, ?_, ?_, ?_, ?_, ?_, ?_, ?_, ?_, ?_, ?_, ?_, ?_, ?_, ?_, ?_, ?_, ?_, ?_, ?_, ?_, ?_, ?_, ?_, ?_, ?_, ?_, ?_, ?_, ?_, ?_, ?_, ?_, trivial⟩
    · intro f w' hb hd K hK
      dsimp only
      go_simp
      exact hK (.slice ra WL.length rc) w' (Below.refl _ _) rfl
    · intro f w' hb hd K hK
      dsimp only
      go_simp
      exact hK (.slice rb WL.length re) w' (Below.refl _ _) rfl
    · intro f w' hb hd K hK
      have h0 : f 44 = (.slice ra WL.length rc) := hd 0 (by kernel_rfl)
      have h1 : f 45 = (.slice rb WL.length re) := hd 1 (by kernel_rfl)
      have HO := Lib.hid (ints_same _ _ WL w' (J3.out.below ((Below.refl _ w3).drew.trans hb)) (I3.out.below ((Below.refl _ w3).drew.trans hb)) HL1.out)
      dsimp only
      go_simp
      go_wp2_with (go_at_call 42; refine HO.out.mono ?_; rintro e w2 ⟨rfl, hb2⟩)
      have q := hK (.bool true) w2 hb2 rfl
      simp only [h0, h1] at q
      exact q
    · intro f w' hb hd K hK
      have h0 : f 46 = (.bool true) := hd 2 (by kernel_rfl)
      dsimp only
      go_simp
      have q := hK (.bool true) w' (Below.refl _ _) rfl
      simp only [h0] at q
      exact q
    · intro f w' hb hd K hK
      have hg : f 47 = .bool true := hd 3 (by kernel_rfl)
      dsimp only
      go_simp
      have q := hK (.bool GD) w' (Below.refl _ _) rfl
      simp only [hg] at q
      exact q
    · intro f w' hb hd K hK
      have hg : f 47 = .bool true := hd 3 (by kernel_rfl)
      dsimp only
      go_simp
      have q := hK (.bool GD) w' (Below.refl _ _) rfl
      simp only [hg] at q
      exact q
    · intro f w' hb hd K hK
      have hg : f 47 = .bool true := hd 3 (by kernel_rfl)
      have h0 : f 48 = (.bool GD) := hd 4 (by kernel_rfl)
      have h1 : f 49 = (.bool GD) := hd 5 (by kernel_rfl)
      dsimp only
      go_simp
      have q := hK (.bool true) w' (Below.refl _ _) rfl
      simp only [hg, h0, h1] at q
      exact q
    · intro f w' hb hd K hK
      have h0 : f 47 = (.bool true) := hd 3 (by kernel_rfl)
      have h1 : f 50 = (.bool true) := hd 6 (by kernel_rfl)
      dsimp only
      go_simp
      have q := hK (.bool true) w' (Below.refl _ _) rfl
      simp only [h0, h1] at q
      exact q
    · intro f w' hb hd K hK
      have h0 : f 51 = (.bool true) := hd 7 (by kernel_rfl)
      dsimp only
      go_simp
      have q := hK (.bool true) w' (Below.refl _ _) rfl
      simp only [h0] at q
      exact q
    · intro f w' hb hd K hK
      have hg : f 52 = .bool true := hd 8 (by kernel_rfl)
      dsimp only
      go_simp
      have q := hK (.pointer (some ⟨w.heap.size, 0, none⟩)) w' (Below.refl _ _) rfl
      simp only [hg] at q
      exact q
    · intro f w' hb hd K hK
      have hg : f 52 = .bool true := hd 8 (by kernel_rfl)
      have h0 : f 53 = (.pointer (some ⟨w.heap.size, 0, none⟩)) := hd 9 (by kernel_rfl)
      have e0 := bkeep hb c0
      have e1 := bkeep hb c1
      have e2 := bkeep hb c2
      dsimp only
      go_simp
      have q := hK (.agg #[.slice sa g.S.length sc, .slice aa g.A.length ac, .slice ta g.T.length tc]) w' (Below.refl _ _) rfl
      simp only [hg, h0] at q
      exact q
    · intro f w' hb hd K hK
      have hg : f 52 = .bool true := hd 8 (by kernel_rfl)
      dsimp only
      go_simp
      have q := hK (.pointer (some ⟨w.heap.size, 3, none⟩)) w' (Below.refl _ _) rfl
      simp only [hg] at q
      exact q
    · intro f w' hb hd K hK
      have hg : f 52 = .bool true := hd 8 (by kernel_rfl)
      have h0 : f 55 = (.pointer (some ⟨w.heap.size, 3, none⟩)) := hd 11 (by kernel_rfl)
      have e0 := bkeep hb c3
      dsimp only
      go_simp
      have q := hK (.slice ua en.length uc) w' (Below.refl _ _) rfl
      simp only [hg, h0] at q
      exact q
    · intro f w' hb hd K hK
      have hg : f 52 = .bool true := hd 8 (by kernel_rfl)
      dsimp only
      go_simp
      have q := hK (.pointer (some ⟨w.heap.size, 4, none⟩)) w' (Below.refl _ _) rfl
      simp only [hg] at q
      exact q
    · intro f w' hb hd K hK
      have hg : f 52 = .bool true := hd 8 (by kernel_rfl)
      have h0 : f 57 = (.pointer (some ⟨w.heap.size, 4, none⟩)) := hd 13 (by kernel_rfl)
      have e0 := bkeep hb c4
      dsimp only
      go_simp
      have q := hK (.int .i64 ag) w' (Below.refl _ _) rfl
      simp only [hg, h0] at q
      exact q
    · intro f w' hb hd K hK
      have hg : f 52 = .bool true := hd 8 (by kernel_rfl)
      dsimp only
      go_simp
      have q := hK (.int .i64 mode) w' (Below.refl _ _) rfl
      simp only [hg] at q
      exact q
    · intro f w' hb hd K hK
      have hg : f 52 = .bool true := hd 8 (by kernel_rfl)
      dsimp only
      go_simp
      have q := hK (.slice pa pl pc) w' (Below.refl _ _) rfl
      simp only [hg] at q
      exact q
    · intro f w' hb hd K hK
      have hg : f 52 = .bool true := hd 8 (by kernel_rfl)
      have h0 : f 54 = (.agg #[.slice sa g.S.length sc, .slice aa g.A.length ac, .slice ta g.T.length tc]) := hd 10 (by kernel_rfl)
      have h1 : f 56 = (.slice ua en.length uc) := hd 12 (by kernel_rfl)
      have h2 : f 58 = (.int .i64 ag) := hd 14 (by kernel_rfl)
      have h3 : f 59 = (.int .i64 mode) := hd 15 (by kernel_rfl)
      have h4 : f 60 = (.slice pa pl pc) := hd 16 (by kernel_rfl)
      have HO := Lib.hid (HSP.out w' (S3.out.more ((Below.refl _ w3).drew.trans hb)).below)
      dsimp only
      go_simp
      go_wp2_with (go_at_call 70; refine HO.out.mono ?_; rintro e w2 ⟨lv, rfl, hE, hb2⟩)
      have q := hK lv w2 hb2 hE
      simp only [hg, h0, h1, h2, h3, h4] at q
      exact q
    · intro f w' hb hd K hK
      have hg : f 52 = .bool true := hd 8 (by kernel_rfl)
      dsimp only
      go_simp
      have q := hK (.pointer (some ⟨w.heap.size, 0, none⟩)) w' (Below.refl _ _) rfl
      simp only [hg] at q
      exact q
    · intro f w' hb hd K hK
      have hg : f 52 = .bool true := hd 8 (by kernel_rfl)
      have h0 : f 62 = (.pointer (some ⟨w.heap.size, 0, none⟩)) := hd 18 (by kernel_rfl)
      have e0 := bkeep hb c0
      have e1 := bkeep hb c1
      have e2 := bkeep hb c2
      dsimp only
      go_simp
      have q := hK (.agg #[.slice sa g.S.length sc, .slice aa g.A.length ac, .slice ta g.T.length tc]) w' (Below.refl _ _) rfl
      simp only [hg, h0] at q
      exact q
    · intro f w' hb hd K hK
      have hg : f 52 = .bool true := hd 8 (by kernel_rfl)
      dsimp only
      go_simp
      have q := hK (.pointer (some ⟨w.heap.size, 3, none⟩)) w' (Below.refl _ _) rfl
      simp only [hg] at q
      exact q
    · intro f w' hb hd K hK
      have hg : f 52 = .bool true := hd 8 (by kernel_rfl)
      have h0 : f 64 = (.pointer (some ⟨w.heap.size, 3, none⟩)) := hd 20 (by kernel_rfl)
      have e0 := bkeep hb c3
      dsimp only
      go_simp
      have q := hK (.slice ua en.length uc) w' (Below.refl _ _) rfl
      simp only [hg, h0] at q
      exact q
    · intro f w' hb hd K hK
      have hg : f 52 = .bool true := hd 8 (by kernel_rfl)
      dsimp only
      go_simp
      have q := hK (.pointer (some ⟨w.heap.size, 4, none⟩)) w' (Below.refl _ _) rfl
      simp only [hg] at q
      exact q
    · intro f w' hb hd K hK
      have hg : f 52 = .bool true := hd 8 (by kernel_rfl)
      have h0 : f 66 = (.pointer (some ⟨w.heap.size, 4, none⟩)) := hd 22 (by kernel_rfl)
      have e0 := bkeep hb c4
      dsimp only
      go_simp
      have q := hK (.int .i64 ag) w' (Below.refl _ _) rfl
      simp only [hg, h0] at q
      exact q
    · intro f w' hb hd K hK
      have hg : f 52 = .bool true := hd 8 (by kernel_rfl)
      dsimp only
      go_simp
      have q := hK (.int .i64 mode) w' (Below.refl _ _) rfl
      simp only [hg] at q
      exact q
    · intro f w' hb hd K hK
      have hg : f 52 = .bool true := hd 8 (by kernel_rfl)
      dsimp only
      go_simp
      have q := hK (.slice pa pl pc) w' (Below.refl _ _) rfl
      simp only [hg] at q
      exact q
    · intro f w' hb hd K hK
      have hg : f 52 = .bool true := hd 8 (by kernel_rfl)
      have h0 : f 63 = (.agg #[.slice sa g.S.length sc, .slice aa g.A.length ac, .slice ta g.T.length tc]) := hd 19 (by kernel_rfl)
      have h1 : f 65 = (.slice ua en.length uc) := hd 21 (by kernel_rfl)
      have h2 : f 67 = (.int .i64 ag) := hd 23 (by kernel_rfl)
      have h3 : f 68 = (.int .i64 mode) := hd 24 (by kernel_rfl)
      have h4 : f 69 = (.slice pa pl pc) := hd 25 (by kernel_rfl)
      have HO := Lib.hid (HRS.out w' (S3.out.more ((Below.refl _ w3).drew.trans hb)).below)
      dsimp only
      go_simp
      go_wp2_with (go_at_call 71; refine HO.out.mono ?_; rintro e w2 ⟨lv, rfl, hE, hb2⟩)
      have q := hK lv w2 hb2 hE
      simp only [hg, h0, h1, h2, h3, h4] at q
      exact q
    · intro f w' hb hd K hK
      have hg : f 52 = .bool true := hd 8 (by kernel_rfl)
      have r0 : IntsAt w' (f 61) WT := hd 17 (by kernel_rfl)
      have r1 : IntsAt w' (f 70) WT := hd 26 (by kernel_rfl)
      have HO := Lib.hid (ints_same _ _ WT w' r0 r1 HL2.out)
      clear r0 r1
      dsimp only
      go_simp
      go_wp2_with (go_at_call 42; refine HO.out.mono ?_; rintro e w2 ⟨rfl, hb2⟩)
      have q := hK (.bool true) w2 hb2 rfl
      simp only [hg] at q
      exact q
    · intro f w' hb hd K hK
      have h0 : f 52 = (.bool true) := hd 8 (by kernel_rfl)
      have h1 : f 71 = (.bool true) := hd 27 (by kernel_rfl)
      dsimp only
      go_simp
      have q := hK (.bool true) w' (Below.refl _ _) rfl
      simp only [h0, h1] at q
      exact q
    · intro f w' hb hd K hK
      have h0 : f 72 = (.bool true) := hd 28 (by kernel_rfl)
      dsimp only
      go_simp
      have q := hK (.bool true) w' (Below.refl _ _) rfl
      simp only [h0] at q
      exact q
    · intro f w' hb hd K hK
      have hg : f 73 = .bool true := hd 29 (by kernel_rfl)
      have HO := Lib.hid (known19 w')
      dsimp only
      go_simp
      go_wp2_with (go_at_call 67; refine HO.out.mono ?_; rintro e w2 ⟨rfl, hb2⟩)
      have q := hK (.bool true) w2 hb2 rfl
      simp only [hg] at q
      exact q
    · intro f w' hb hd K hK
      have h0 : f 73 = (.bool true) := hd 29 (by kernel_rfl)
      have h1 : f 74 = (.bool true) := hd 30 (by kernel_rfl)
      dsimp only
      go_simp
      have q := hK (.bool true) w' (Below.refl _ _) rfl
      simp only [h0, h1] at q
      exact q
    · intro f w' hb hd K hK
      have h0 : f 75 = (.bool true) := hd 31 (by kernel_rfl)
      dsimp only
      go_simp
      have q := hK (.bool true) w' (Below.refl _ _) rfl
      simp only [h0] at q
      exact q
  · intro f w' hb hr
    have h6 : f 6 = .bool true := hr 32 (by decide)
    have HB2 := Lib.hid (S3.out.more hb).below
    clear hr hb
    dsimp only
    rw [h6]
    generalize f 44 = x44
    generalize f 45 = x45
    generalize f 46 = x46
    generalize f 47 = x47
    generalize f 48 = x48
    generalize f 49 = x49
    generalize f 50 = x50
    generalize f 51 = x51
    generalize f 52 = x52
    generalize f 53 = x53
    generalize f 54 = x54
    generalize f 55 = x55
    generalize f 56 = x56
    generalize f 57 = x57
    generalize f 58 = x58
    generalize f 59 = x59
    generalize f 60 = x60
    generalize f 61 = x61
    generalize f 62 = x62
    generalize f 63 = x63
    generalize f 64 = x64
    generalize f 65 = x65
    generalize f 66 = x66
    generalize f 67 = x67
    generalize f 68 = x68
    generalize f 69 = x69
    generalize f 70 = x70
    generalize f 71 = x71
    generalize f 72 = x72
    generalize f 73 = x73
    generalize f 74 = x74
    generalize f 75 = x75
    go_wp2_with fail
    go_ret
    exact ⟨rfl, HB2.out⟩
end Go.Proofs.Ytnlaonppgebpoaa
