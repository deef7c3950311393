/-
  spinnakerlaw18.FairGood: the walk. (Written by gen_fairgoodlaw.py.)
-/
import Derived.Test.YtnlaonppgebpoaaLawFound
namespace Go.Proofs.Ytnlaonppgebpoaa
open Go.RowKit

/-- two boxed parameters -/
structure Bx2 (w wr : World) (c : Array Value) (t : TypeId) (c' : Array Value) (t' : TypeId) : Prop where
  below : Below w.heap.size w wr
  blk : wr.heap[w.heap.size]? = some (.cells c t (0, 0))
  blk2 : wr.heap[w.heap.size + 1]? = some (.cells c' t' (0, 0))
theorem Bx2.start (w : World) (c : Array Value) (t : TypeId) (c' : Array Value) (t' : TypeId) : Bx2 w ((w.alloc (.cells c t)).alloc (.cells c' t')) c t c' t' :=
  ⟨(balloc w _).trans ((balloc (w.alloc (.cells c t)) _).mono (balloc w _).size), bheap (balloc (w.alloc (.cells c t)) _) (heap_alloc_new w _), heap_alloc_two w _ _⟩
theorem Bx2.more {w wr w' : World} {c c' : Array Value} {t t' : TypeId} (h : Bx2 w wr c t c' t') (hb : Below wr.heap.size wr w') : Bx2 w w' c t c' t' := ⟨h.below.trans (hb.mono h.below.size), bheap hb h.blk, bheap hb h.blk2⟩
set_option maxRecDepth 100000 in
set_option maxHeartbeats 64000000 in
theorem fairGood (v u : Value) (g : Gr) (en : List (List Bool)) (ag : Int) (l : List Int) (x y : Int) (w : World) (h : TabArg w v g en ag) (hI : IntsAt w u l) (hll : l.length ≤ 9223372036854775807) (hbl : ∀ z ∈ l, -9223372036854775808 ≤ z ∧ z ≤ 9223372036854775807)
    (_hx : (Lit.int .i64 x).wf = true) (hy : (Lit.int .i64 y).wf = true) :
    Calls Try.prog 14 #[v, u, .agg #[.int .i64 x, .int .i64 y]] w fun e w' => e = .returned (.bool true) ∧ Below w.heap.size w w' := by
  have HLT := Lib.hid (fun (w' : World) (hb : Below w.heap.size w w') => tlight_ok v g en ag w' (h.below hb))
  obtain ⟨sa, aa, ta, sc, ac, tc, ua, uc, rfl, hg, hu⟩ := h.var
  have S0 := Lib.hid (Bx2.start w #[.slice sa g.S.length sc, .slice aa g.A.length ac, .slice ta g.T.length tc, .slice ua en.length uc, .int .i64 ag] 55 #[.int .i64 x, .int .i64 y] 60)
  have HII := Lib.hid (fun (w' : World) (hb : Below w.heap.size w w') => hI.below hb)
  obtain ⟨pa, pc, rfl, -⟩ := id hI
  cases hl : litT g en ag
  · rw [hl] at HLT
    clear h hg hu hl hI
    go_enter Try.func14, Try.ntmps14
    go_wp2_with (first
      | (go_at_call 52; refine (HLT.out _ S0.out.below).mono ?_; rintro e w1 ⟨rfl, hb⟩; have S1 := Lib.hid (S0.out.more hb); clear hb)
      | (go_at_call 53; refine (known18 _).mono ?_; rintro e w2 ⟨rfl, hb⟩; have S2 := Lib.hid (S1.out.more hb); clear hb))
    go_ret
    exact ⟨rfl, S2.out.below⟩
  rw [hl] at HLT
  have hL := litT_spec hl
  by_cases h60 : (60 : Int) < (l.length : Int)
  · clear h hg hu hl hI hL
    go_enter Try.func14, Try.ntmps14
    go_wp2_with (first
      | (go_at_call 52; refine (HLT.out _ S0.out.below).mono ?_; rintro e w1 ⟨rfl, hb⟩; have S1 := Lib.hid (S0.out.more hb); clear hb)
      | (go_at_call 53; refine (known18 _).mono ?_; rintro e w2 ⟨rfl, hb⟩; have S2 := Lib.hid (S1.out.more hb); clear hb))
    go_ret
    exact ⟨rfl, S2.out.below⟩
  have hGA : GraphAt w (.agg #[.slice sa g.S.length sc, .slice aa g.A.length ac, .slice ta g.T.length tc]) g := hg.small (by omega) (by omega) (by omega)
  have HR := Lib.hid (fun (w' : World) (hb : Below w.heap.size w w') => rrt_ok _ _ g en ag w' (hGA.below hb) (hu.below hb))
  cases hr : rtB g en ag
  · rw [hr] at HR
    clear h hg hu hl hL hGA hr hI
    go_enter Try.func14, Try.ntmps14
    go_wp2_with (first
      | (go_at_call 52; refine (HLT.out _ S0.out.below).mono ?_; rintro e w1 ⟨rfl, hb⟩; have S1 := Lib.hid (S0.out.more hb); have c0 := cell_of_block S1.out.blk 0 _ rfl; have c1 := cell_of_block S1.out.blk 1 _ rfl; have c2 := cell_of_block S1.out.blk 2 _ rfl; have c3 := cell_of_block S1.out.blk 3 _ rfl; have c4 := cell_of_block S1.out.blk 4 _ rfl; clear hb)
      | (go_at_call 60; refine (HR.out _ S1.out.below).mono ?_; rintro e w2 ⟨rfl, hb⟩; have S2 := Lib.hid (S1.out.more hb); clear hb)
      | (go_at_call 53; refine (known18 _).mono ?_; rintro e w3 ⟨rfl, hb⟩; have S3 := Lib.hid (S2.out.more hb); clear hb))
    go_ret
    exact ⟨rfl, S3.out.below⟩
  rw [hr] at HR
  have hRT := rtB_rt hr
  have hn : nodesN g ≤ 100000 := by have := nodes_len (g := g); omega
  have hwl : ∀ z ∈ l, (Lit.int .i64 z).wf = true := fun z hz => WalkArith.wf_i64 (hbl z hz)
  have HGD := Lib.hid (fun (w' : World) (hb : Below w.heap.size w w') => good_ok _ _ _ g en ag x l w' (hGA.below hb) (hu.below hb) (HII.out w' hb) (by omega) hn)
  have HRG := Lib.hid (fun (w' : World) (hb : Below w.heap.size w w') => rgood_ok _ _ _ g en ag x l w' (hGA.below hb) (hu.below hb) (HII.out w' hb) (by omega) hn)
  have HAC := Lib.hid (fun (w' : World) (hb : Below w.heap.size w w') => acts_ok _ _ g l y w' (hGA.below hb) (HII.out w' hb) hwl (by omega) hRT.wf hy)
  have HRA := Lib.hid (fun (w' : World) (hb : Below w.heap.size w w') => racts_ok _ _ g l y w' (hGA.below hb) (HII.out w' hb) (by omega))
  clear h hg hu hl hL hGA hr hRT hn hI hwl hbl hll
  generalize goodB g en ag x l = GB at *
  generalize actB g l y = AC at *
  go_enter Try.func14, Try.ntmps14
  go_wp2_with (first
    | (go_at_call 52; refine (HLT.out _ S0.out.below).mono ?_; rintro e w1 ⟨rfl, hb⟩; have S1 := Lib.hid (S0.out.more hb); have c0 := cell_of_block S1.out.blk 0 _ rfl; have c1 := cell_of_block S1.out.blk 1 _ rfl; have c2 := cell_of_block S1.out.blk 2 _ rfl; have c3 := cell_of_block S1.out.blk 3 _ rfl; have c4 := cell_of_block S1.out.blk 4 _ rfl; clear hb)
    | (go_at_call 60; refine (HR.out _ S1.out.below).mono ?_; rintro e w2 ⟨rfl, hb⟩; have S2 := Lib.hid (S1.out.more hb); clear hb))
  clear c0 c1 c2 c3 c4
  have c0 := cell_of_block S2.out.blk 0 _ rfl
  have c1 := cell_of_block S2.out.blk 1 _ rfl
  have c2 := cell_of_block S2.out.blk 2 _ rfl
  have c3 := cell_of_block S2.out.blk 3 _ rfl
  have c4 := cell_of_block S2.out.blk 4 _ rfl
  have m0 := cell_of_block S2.out.blk2 0 _ rfl
  have m1 := cell_of_block S2.out.blk2 1 _ rfl
  refine region_rel (fun q => match q with | 6 => .bool false | _ => undef)
    (fun f => { tmps := #[.agg #[.slice sa g.S.length sc, .slice aa g.A.length ac, .slice ta g.T.length tc, .slice ua en.length uc, .int .i64 ag], .slice pa l.length pc, .agg #[.int .i64 x, .int .i64 y], .pointer (some ⟨w.heap.size, 0, none⟩), undef, .pointer (some ⟨w.heap.size + 1, 0, none⟩), f 6, .agg #[.slice sa g.S.length sc, .slice aa g.A.length ac, .slice ta g.T.length tc, .slice ua en.length uc, .int .i64 ag], .bool true, .bool false, .bool false, .slice pa l.length pc, .int .i64 (l.length : Nat), .bool (decide ((60 : Int) < (l.length : Nat))), .bool (decide ((60 : Int) < (l.length : Nat))), .bool (decide ((60 : Int) < (l.length : Nat))), .pointer (some ⟨w.heap.size, 0, none⟩), .agg #[.slice sa g.S.length sc, .slice aa g.A.length ac, .slice ta g.T.length tc], .pointer (some ⟨w.heap.size, 3, none⟩), .slice ua en.length uc, .pointer (some ⟨w.heap.size, 4, none⟩), .int .i64 ag, .bool true, .bool false, .bool (decide ((60 : Int) < (l.length : Nat))), undef, f 26, f 27, f 28, f 29, f 30, f 31, f 32, f 33, f 34, f 35, f 36, f 37, f 38, f 39, f 40, f 41, f 42, f 43, f 44, f 45, f 46, f 47, f 48, f 49, f 50, f 51, f 52, f 53, f 54, f 55, f 56, f 57, f 58, f 59, f 60, f 61, f 62, f 63, f 64], defers := [] }) (fun j => if j = 39 then 6 else j + 26)
    (relL [.eq (.pointer (some ⟨w.heap.size, 0, none⟩)), .eq (.agg #[.slice sa g.S.length sc, .slice aa g.A.length ac, .slice ta g.T.length tc]), .eq (.pointer (some ⟨w.heap.size, 3, none⟩)), .eq (.slice ua en.length uc), .eq (.pointer (some ⟨w.heap.size, 4, none⟩)), .eq (.int .i64 ag), .eq (.pointer (some ⟨w.heap.size + 1, 0, none⟩)), .eq (.int .i64 x), .eq (.slice pa l.length pc), .eq (.bool GB), .eq (.pointer (some ⟨w.heap.size, 0, none⟩)), .eq (.agg #[.slice sa g.S.length sc, .slice aa g.A.length ac, .slice ta g.T.length tc]), .eq (.pointer (some ⟨w.heap.size, 3, none⟩)), .eq (.slice ua en.length uc), .eq (.pointer (some ⟨w.heap.size, 4, none⟩)), .eq (.int .i64 ag), .eq (.pointer (some ⟨w.heap.size + 1, 0, none⟩)), .eq (.int .i64 x), .eq (.slice pa l.length pc), .eq (.bool GB), .eq (.bool true), .eq (.bool true), .eq (.pointer (some ⟨w.heap.size, 0, none⟩)), .eq (.agg #[.slice sa g.S.length sc, .slice aa g.A.length ac, .slice ta g.T.length tc]), .eq (.slice pa l.length pc), .eq (.pointer (some ⟨w.heap.size + 1, 1, none⟩)), .eq (.int .i64 y), .eq (.bool AC), .eq (.pointer (some ⟨w.heap.size, 0, none⟩)), .eq (.agg #[.slice sa g.S.length sc, .slice aa g.A.length ac, .slice ta g.T.length tc]), .eq (.slice pa l.length pc), .eq (.pointer (some ⟨w.heap.size + 1, 1, none⟩)), .eq (.int .i64 y), .eq (.bool AC), .eq (.bool true), .eq (.bool true), .eq (.bool true), .eq (.bool true), .eq (.bool true), .eq (.bool true)])
    rfl (by kernel_rfl) (fun i u w w' hb h => RK.mono _ hb h) (by kernel_rfl) (by kernel_rfl) ?_ ?_ ?_
  · intro j hj f v
    rcases j with _ | _ | _ | _ | _ | _ | _ | _ | _ | _ | _ | _ | _ | _ | _ | _ | _ | _ | _ | _ | _ | _ | _ | _ | _ | _ | _ | _ | _ | _ | _ | _ | _ | _ | _ | _ | _ | _ | _ | _ | j
    all_goals first | rfl | (simp at hj; omega)
  · refine ⟨?_, ?_, ?_, ?_, ?_, ?_, ?_, ?_, ?_, ?_, ?_, ?_, ?_, ?_, ?_, ?_, ?_, ?_, ?_, ?_, ?_, ?_, ?_, ?_, ?_, ?_, ?_, ?_, ?_, ?_, ?_, ?_, ?_, ?_, ?_, ?_, ?_, ?_, ?_, ?_, trivial⟩
    · intro f w' hb hd K hK
      dsimp only
      go_simp
      exact hK (.pointer (some ⟨w.heap.size, 0, none⟩)) w' (Below.refl _ _) rfl
    · intro f w' hb hd K hK
      have h0 : f 26 = (.pointer (some ⟨w.heap.size, 0, none⟩)) := hd 0 (by kernel_rfl)
      have e0 := bkeep hb c0
      have e1 := bkeep hb c1
      have e2 := bkeep hb c2
      dsimp only
      go_simp
      have q := hK (.agg #[.slice sa g.S.length sc, .slice aa g.A.length ac, .slice ta g.T.length tc]) w' (Below.refl _ _) rfl
      simp only [h0] at q
      exact q
    · intro f w' hb hd K hK
      dsimp only
      go_simp
      exact hK (.pointer (some ⟨w.heap.size, 3, none⟩)) w' (Below.refl _ _) rfl
    · intro f w' hb hd K hK
      have h0 : f 28 = (.pointer (some ⟨w.heap.size, 3, none⟩)) := hd 2 (by kernel_rfl)
      have e0 := bkeep hb c3
      dsimp only
      go_simp
      have q := hK (.slice ua en.length uc) w' (Below.refl _ _) rfl
      simp only [h0] at q
      exact q
    · intro f w' hb hd K hK
      dsimp only
      go_simp
      exact hK (.pointer (some ⟨w.heap.size, 4, none⟩)) w' (Below.refl _ _) rfl
    · intro f w' hb hd K hK
      have h0 : f 30 = (.pointer (some ⟨w.heap.size, 4, none⟩)) := hd 4 (by kernel_rfl)
      have e0 := bkeep hb c4
      dsimp only
      go_simp
      have q := hK (.int .i64 ag) w' (Below.refl _ _) rfl
      simp only [h0] at q
      exact q
    · intro f w' hb hd K hK
      dsimp only
      go_simp
      exact hK (.pointer (some ⟨w.heap.size + 1, 0, none⟩)) w' (Below.refl _ _) rfl
    · intro f w' hb hd K hK
      have h0 : f 32 = (.pointer (some ⟨w.heap.size + 1, 0, none⟩)) := hd 6 (by kernel_rfl)
      have e0 := bkeep hb m0
      dsimp only
      go_simp
      have q := hK (.int .i64 x) w' (Below.refl _ _) rfl
      simp only [h0] at q
      exact q
    · intro f w' hb hd K hK
      dsimp only
      go_simp
      exact hK (.slice pa l.length pc) w' (Below.refl _ _) rfl
    · intro f w' hb hd K hK
      have h0 : f 27 = (.agg #[.slice sa g.S.length sc, .slice aa g.A.length ac, .slice ta g.T.length tc]) := hd 1 (by kernel_rfl)
      have h1 : f 29 = (.slice ua en.length uc) := hd 3 (by kernel_rfl)
      have h2 : f 31 = (.int .i64 ag) := hd 5 (by kernel_rfl)
      have h3 : f 33 = (.int .i64 x) := hd 7 (by kernel_rfl)
      have h4 : f 34 = (.slice pa l.length pc) := hd 8 (by kernel_rfl)
      have HO := Lib.hid (HGD.out w' (S2.out.more ((Below.refl _ w2).drew.trans hb)).below)
      dsimp only
      go_simp
      go_wp2_with (go_at_call 61; refine HO.out.mono ?_; rintro e w2 ⟨rfl, hb2⟩)
      have q := hK (.bool GB) w2 hb2 rfl
      simp only [h0, h1, h2, h3, h4] at q
      exact q
    · intro f w' hb hd K hK
      dsimp only
      go_simp
      exact hK (.pointer (some ⟨w.heap.size, 0, none⟩)) w' (Below.refl _ _) rfl
    · intro f w' hb hd K hK
      have h0 : f 36 = (.pointer (some ⟨w.heap.size, 0, none⟩)) := hd 10 (by kernel_rfl)
      have e0 := bkeep hb c0
      have e1 := bkeep hb c1
      have e2 := bkeep hb c2
      dsimp only
      go_simp
      have q := hK (.agg #[.slice sa g.S.length sc, .slice aa g.A.length ac, .slice ta g.T.length tc]) w' (Below.refl _ _) rfl
      simp only [h0] at q
      exact q
    · intro f w' hb hd K hK
      dsimp only
      go_simp
      exact hK (.pointer (some ⟨w.heap.size, 3, none⟩)) w' (Below.refl _ _) rfl
    · intro f w' hb hd K hK
      have h0 : f 38 = (.pointer (some ⟨w.heap.size, 3, none⟩)) := hd 12 (by kernel_rfl)
      have e0 := bkeep hb c3
      dsimp only
      go_simp
      have q := hK (.slice ua en.length uc) w' (Below.refl _ _) rfl
      simp only [h0] at q
      exact q
    · intro f w' hb hd K hK
      dsimp only
      go_simp
      exact hK (.pointer (some ⟨w.heap.size, 4, none⟩)) w' (Below.refl _ _) rfl
    · intro f w' hb hd K hK
      have h0 : f 40 = (.pointer (some ⟨w.heap.size, 4, none⟩)) := hd 14 (by kernel_rfl)
      have e0 := bkeep hb c4
      dsimp only
      go_simp
      have q := hK (.int .i64 ag) w' (Below.refl _ _) rfl
      simp only [h0] at q
      exact q
    · intro f w' hb hd K hK
      dsimp only
      go_simp
      exact hK (.pointer (some ⟨w.heap.size + 1, 0, none⟩)) w' (Below.refl _ _) rfl
    · intro f w' hb hd K hK
      have h0 : f 42 = (.pointer (some ⟨w.heap.size + 1, 0, none⟩)) := hd 16 (by kernel_rfl)
      have e0 := bkeep hb m0
      dsimp only
      go_simp
      have q := hK (.int .i64 x) w' (Below.refl _ _) rfl
      simp only [h0] at q
      exact q
    · intro f w' hb hd K hK
      dsimp only
      go_simp
      exact hK (.slice pa l.length pc) w' (Below.refl _ _) rfl
    · intro f w' hb hd K hK
      have h0 : f 37 = (.agg #[.slice sa g.S.length sc, .slice aa g.A.length ac, .slice ta g.T.length tc]) := hd 11 (by kernel_rfl)
      have h1 : f 39 = (.slice ua en.length uc) := hd 13 (by kernel_rfl)
      have h2 : f 41 = (.int .i64 ag) := hd 15 (by kernel_rfl)
      have h3 : f 43 = (.int .i64 x) := hd 17 (by kernel_rfl)
      have h4 : f 44 = (.slice pa l.length pc) := hd 18 (by kernel_rfl)
      have HO := Lib.hid (HRG.out w' (S2.out.more ((Below.refl _ w2).drew.trans hb)).below)
      dsimp only
      go_simp
      go_wp2_with (go_at_call 62; refine HO.out.mono ?_; rintro e w2 ⟨rfl, hb2⟩)
      have q := hK (.bool GB) w2 hb2 rfl
      simp only [h0, h1, h2, h3, h4] at q
      exact q
    · intro f w' hb hd K hK
      have h0 : f 35 = (.bool GB) := hd 9 (by kernel_rfl)
      have h1 : f 45 = (.bool GB) := hd 19 (by kernel_rfl)
      dsimp only
      go_simp
      have q := hK (.bool true) w' (Below.refl _ _) rfl
      simp only [h0, h1] at q
      exact q
    · intro f w' hb hd K hK
      have h0 : f 46 = (.bool true) := hd 20 (by kernel_rfl)
      dsimp only
      go_simp
      have q := hK (.bool true) w' (Below.refl _ _) rfl
      simp only [h0] at q
      exact q
    · intro f w' hb hd K hK
      have hg : f 47 = .bool true := hd 21 (by kernel_rfl)
      dsimp only
      go_simp
      have q := hK (.pointer (some ⟨w.heap.size, 0, none⟩)) w' (Below.refl _ _) rfl
      simp only [hg] at q
      exact q
    · intro f w' hb hd K hK
      have hg : f 47 = .bool true := hd 21 (by kernel_rfl)
      have h0 : f 48 = (.pointer (some ⟨w.heap.size, 0, none⟩)) := hd 22 (by kernel_rfl)
      have e0 := bkeep hb c0
      have e1 := bkeep hb c1
      have e2 := bkeep hb c2
      dsimp only
      go_simp
      have q := hK (.agg #[.slice sa g.S.length sc, .slice aa g.A.length ac, .slice ta g.T.length tc]) w' (Below.refl _ _) rfl
      simp only [hg, h0] at q
      exact q
    · intro f w' hb hd K hK
      have hg : f 47 = .bool true := hd 21 (by kernel_rfl)
      dsimp only
      go_simp
      have q := hK (.slice pa l.length pc) w' (Below.refl _ _) rfl
      simp only [hg] at q
      exact q
    · intro f w' hb hd K hK
      have hg : f 47 = .bool true := hd 21 (by kernel_rfl)
      dsimp only
      go_simp
      have q := hK (.pointer (some ⟨w.heap.size + 1, 1, none⟩)) w' (Below.refl _ _) rfl
      simp only [hg] at q
      exact q
    · intro f w' hb hd K hK
      have hg : f 47 = .bool true := hd 21 (by kernel_rfl)
      have h0 : f 51 = (.pointer (some ⟨w.heap.size + 1, 1, none⟩)) := hd 25 (by kernel_rfl)
      have e0 := bkeep hb m1
      dsimp only
      go_simp
      have q := hK (.int .i64 y) w' (Below.refl _ _) rfl
      simp only [hg, h0] at q
      exact q
    · intro f w' hb hd K hK
      have hg : f 47 = .bool true := hd 21 (by kernel_rfl)
      have h0 : f 49 = (.agg #[.slice sa g.S.length sc, .slice aa g.A.length ac, .slice ta g.T.length tc]) := hd 23 (by kernel_rfl)
      have h1 : f 50 = (.slice pa l.length pc) := hd 24 (by kernel_rfl)
      have h2 : f 52 = (.int .i64 y) := hd 26 (by kernel_rfl)
      have HO := Lib.hid (HAC.out w' (S2.out.more ((Below.refl _ w2).drew.trans hb)).below)
      dsimp only
      go_simp
      go_wp2_with (go_at_call 63; refine HO.out.mono ?_; rintro e w2 ⟨rfl, hb2⟩)
      have q := hK (.bool AC) w2 hb2 rfl
      simp only [hg, h0, h1, h2] at q
      exact q
    · intro f w' hb hd K hK
      have hg : f 47 = .bool true := hd 21 (by kernel_rfl)
      dsimp only
      go_simp
      have q := hK (.pointer (some ⟨w.heap.size, 0, none⟩)) w' (Below.refl _ _) rfl
      simp only [hg] at q
      exact q
    · intro f w' hb hd K hK
      have hg : f 47 = .bool true := hd 21 (by kernel_rfl)
      have h0 : f 54 = (.pointer (some ⟨w.heap.size, 0, none⟩)) := hd 28 (by kernel_rfl)
      have e0 := bkeep hb c0
      have e1 := bkeep hb c1
      have e2 := bkeep hb c2
      dsimp only
      go_simp
      have q := hK (.agg #[.slice sa g.S.length sc, .slice aa g.A.length ac, .slice ta g.T.length tc]) w' (Below.refl _ _) rfl
      simp only [hg, h0] at q
      exact q
    · intro f w' hb hd K hK
      have hg : f 47 = .bool true := hd 21 (by kernel_rfl)
      dsimp only
      go_simp
      have q := hK (.slice pa l.length pc) w' (Below.refl _ _) rfl
      simp only [hg] at q
      exact q
    · intro f w' hb hd K hK
      have hg : f 47 = .bool true := hd 21 (by kernel_rfl)
      dsimp only
      go_simp
      have q := hK (.pointer (some ⟨w.heap.size + 1, 1, none⟩)) w' (Below.refl _ _) rfl
      simp only [hg] at q
      exact q
    · intro f w' hb hd K hK
      have hg : f 47 = .bool true := hd 21 (by kernel_rfl)
      have h0 : f 57 = (.pointer (some ⟨w.heap.size + 1, 1, none⟩)) := hd 31 (by kernel_rfl)
      have e0 := bkeep hb m1
      dsimp only
      go_simp
      have q := hK (.int .i64 y) w' (Below.refl _ _) rfl
      simp only [hg, h0] at q
      exact q
    · intro f w' hb hd K hK
      have hg : f 47 = .bool true := hd 21 (by kernel_rfl)
      have h0 : f 55 = (.agg #[.slice sa g.S.length sc, .slice aa g.A.length ac, .slice ta g.T.length tc]) := hd 29 (by kernel_rfl)
      have h1 : f 56 = (.slice pa l.length pc) := hd 30 (by kernel_rfl)
      have h2 : f 58 = (.int .i64 y) := hd 32 (by kernel_rfl)
      have HO := Lib.hid (HRA.out w' (S2.out.more ((Below.refl _ w2).drew.trans hb)).below)
      dsimp only
      go_simp
      go_wp2_with (go_at_call 64; refine HO.out.mono ?_; rintro e w2 ⟨rfl, hb2⟩)
      have q := hK (.bool AC) w2 hb2 rfl
      simp only [hg, h0, h1, h2] at q
      exact q
    · intro f w' hb hd K hK
      have hg : f 47 = .bool true := hd 21 (by kernel_rfl)
      have h0 : f 53 = (.bool AC) := hd 27 (by kernel_rfl)
      have h1 : f 59 = (.bool AC) := hd 33 (by kernel_rfl)
      dsimp only
      go_simp
      have q := hK (.bool true) w' (Below.refl _ _) rfl
      simp only [hg, h0, h1] at q
      exact q
    · intro f w' hb hd K hK
      have h0 : f 47 = (.bool true) := hd 21 (by kernel_rfl)
      have h1 : f 60 = (.bool true) := hd 34 (by kernel_rfl)
      dsimp only
      go_simp
      have q := hK (.bool true) w' (Below.refl _ _) rfl
      simp only [h0, h1] at q
      exact q
    · intro f w' hb hd K hK
      have h0 : f 61 = (.bool true) := hd 35 (by kernel_rfl)
      dsimp only
      go_simp
      have q := hK (.bool true) w' (Below.refl _ _) rfl
      simp only [h0] at q
      exact q
    · intro f w' hb hd K hK
      have hg : f 62 = .bool true := hd 36 (by kernel_rfl)
      have HO := Lib.hid (known18 w')
      dsimp only
      go_simp
      go_wp2_with (go_at_call 53; refine HO.out.mono ?_; rintro e w2 ⟨rfl, hb2⟩)
      have q := hK (.bool true) w2 hb2 rfl
      simp only [hg] at q
      exact q
    · intro f w' hb hd K hK
      have h0 : f 62 = (.bool true) := hd 36 (by kernel_rfl)
      have h1 : f 63 = (.bool true) := hd 37 (by kernel_rfl)
      dsimp only
      go_simp
      have q := hK (.bool true) w' (Below.refl _ _) rfl
      simp only [h0, h1] at q
      exact q
    · intro f w' hb hd K hK
      have h0 : f 64 = (.bool true) := hd 38 (by kernel_rfl)
      dsimp only
      go_simp
      have q := hK (.bool true) w' (Below.refl _ _) rfl
      simp only [h0] at q
      exact q
  · intro f w' hb hr
    have h6 : f 6 = .bool true := hr 39 (by decide)
    have HB2 := Lib.hid (S2.out.more hb).below
    clear hr hb
    dsimp only
    rw [h6]
    generalize f 26 = x26
    generalize f 27 = x27
    generalize f 28 = x28
    generalize f 29 = x29
    generalize f 30 = x30
    generalize f 31 = x31
    generalize f 32 = x32
    generalize f 33 = x33
    generalize f 34 = x34
    generalize f 35 = x35
    generalize f 36 = x36
    generalize f 37 = x37
    generalize f 38 = x38
    generalize f 39 = x39
    generalize f 40 = x40
    generalize f 41 = x41
    generalize f 42 = x42
    generalize f 43 = x43
    generalize f 44 = x44
    generalize f 45 = x45
    generalize f 46 = x46
    generalize f 47 = x47
    generalize f 48 = x48
    generalize f 49 = x49
    generalize f 50 = x50
    generalize f 51 = x51
    generalize f 52 = x52
    generalize f 53 = x53
    generalize f 54 = x54
    generalize f 55 = x55
    generalize f 56 = x56
    generalize f 57 = x57
    generalize f 58 = x58
    generalize f 59 = x59
    generalize f 60 = x60
    generalize f 61 = x61
    generalize f 62 = x62
    generalize f 63 = x63
    generalize f 64 = x64
    go_wp2_with fail
    go_ret
    exact ⟨rfl, HB2.out⟩
end Go.Proofs.Ytnlaonppgebpoaa
