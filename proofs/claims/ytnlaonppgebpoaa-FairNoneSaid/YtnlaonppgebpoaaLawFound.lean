/-
  spinnakerlaw18.FairFound: the walk. (Written by gen_fairfound.py.)
-/
import Derived.Test.YtnlaonppgebpoaaFairC
namespace Go.Proofs.Ytnlaonppgebpoaa
open Go.RowKit

/-- the boxed parameter, in its block -/
structure BxSt (w wr : World) (c : Array Value) (t : TypeId) : Prop where
  below : Below w.heap.size w wr
  blk : wr.heap[w.heap.size]? = some (.cells c t (0, 0))
theorem BxSt.start (w : World) (c : Array Value) (t : TypeId) : BxSt w (w.alloc (.cells c t)) c t := ⟨balloc w _, heap_alloc_new w _⟩
theorem BxSt.more {w wr w' : World} {c : Array Value} {t : TypeId} (h : BxSt w wr c t) (hb : Below wr.heap.size wr w') : BxSt w w' c t := ⟨h.below.trans (hb.mono h.below.size), bheap hb h.blk⟩
theorem nodes_len {g : Gr} : nodesN g ≤ g.S.length := by
  cases h : rightB g
  · rw [nodesN_not h]; omega
  · rw [nodesN_right ((rightB_iff g).1 h)]; omega
set_option maxRecDepth 100000 in
set_option maxHeartbeats 32000000 in
theorem fairFound (v : Value) (g : Gr) (en : List (List Bool)) (ag : Int) (w : World) (h : TabArg w v g en ag) :
    Calls Try.prog 15 #[v] w fun e w' => e = .returned (.bool true) ∧ Below w.heap.size w w' := by
  have HLT := Lib.hid (fun (w' : World) (hb : Below w.heap.size w w') => tlight_ok v g en ag w' (h.below hb))
  obtain ⟨sa, aa, ta, sc, ac, tc, ua, uc, rfl, hg, hu⟩ := h.var
  have S0 := Lib.hid (BxSt.start w #[.slice sa g.S.length sc, .slice aa g.A.length ac, .slice ta g.T.length tc, .slice ua en.length uc, .int .i64 ag] 55)
  cases hl : litT g en ag
  · rw [hl] at HLT
    clear h hg hu hl
    go_enter Try.func15, Try.ntmps15
    go_wp2_with (first
      | (go_at_call 52; refine (HLT.out _ S0.out.below).mono ?_; rintro e w1 ⟨rfl, hb⟩; have S1 := Lib.hid (S0.out.more hb); clear hb)
      | (go_at_call 53; refine (known18 _).mono ?_; rintro e w2 ⟨rfl, hb⟩; have S2 := Lib.hid (S1.out.more hb); clear hb))
    go_ret
    exact ⟨rfl, S2.out.below⟩
  rw [hl] at HLT
  have hL := litT_spec hl
  have hGA : GraphAt w (.agg #[.slice sa g.S.length sc, .slice aa g.A.length ac, .slice ta g.T.length tc]) g := hg.small (by omega) (by omega) (by omega)
  have HR := Lib.hid (fun (w' : World) (hb : Below w.heap.size w w') => rrt_ok _ _ g en ag w' (hGA.below hb) (hu.below hb))
  cases hr : rtB g en ag
  · rw [hr] at HR
    clear h hg hu hl hL hGA hr
    go_enter Try.func15, Try.ntmps15
    go_wp2_with (first
      | (go_at_call 52; refine (HLT.out _ S0.out.below).mono ?_; rintro e w1 ⟨rfl, hb⟩; have S1 := Lib.hid (S0.out.more hb); have c0 := cell_of_block S1.out.blk 0 _ rfl; have c1 := cell_of_block S1.out.blk 1 _ rfl; have c2 := cell_of_block S1.out.blk 2 _ rfl; have c3 := cell_of_block S1.out.blk 3 _ rfl; have c4 := cell_of_block S1.out.blk 4 _ rfl; clear hb)
      | (go_at_call 60; refine (HR.out _ S1.out.below).mono ?_; rintro e w2 ⟨rfl, hb⟩; have S2 := Lib.hid (S1.out.more hb); clear hb)
      | (go_at_call 53; refine (known18 _).mono ?_; rintro e w3 ⟨rfl, hb⟩; have S3 := Lib.hid (S2.out.more hb); clear hb))
    go_ret
    exact ⟨rfl, S3.out.below⟩
  rw [hr] at HR
  have hRT := rtB_rt hr
  have hn : nodesN g ≤ 100000 := by have := nodes_len (g := g); omega
  have hS : g.S.length ≤ 100000 := by omega
  have HW := Lib.hid (fun (w' : World) (hb : Below w.heap.size w w') => weak_ok _ _ g en ag w' (hGA.below hb) (hu.below hb) hn)
  have HS := Lib.hid (fun (w' : World) (hb : Below w.heap.size w w') => strong_ok _ _ g en ag w' (hGA.below hb) (hu.below hb) hn)
  have HGD := Lib.hid (fun (w' : World) (hb : Below w.heap.size w w') (how : Int) (pv : Value) (p : List Int) (hp : IntsAt w' pv p) (hpl : p.length ≤ 1000000) => good_ok _ _ pv g en ag how p w' (hGA.below hb) (hu.below hb) hp hpl hn)
  have HWL : Hid ((weakL g en ag).length ≤ 1000000) := Lib.hid (weakL_len hn)
  have HSL : Hid ((strongL g en ag).length ≤ 1000000) := Lib.hid (strongL_len hS hn)
  have F1 : 0 < (weakL g en ag).length → goodB g en ag 1 (weakL g en ag) = true := fun z => good_of_1 hRT (weak_goodP hRT hS z)
  have F2 : 0 < (strongL g en ag).length → goodB g en ag 2 (strongL g en ag) = true ∧ goodB g en ag 1 (strongL g en ag) = true ∧ 0 < (weakL g en ag).length := fun z =>
    ⟨good_of_2 hRT (strong_goodP hRT hS z), good_of_1 hRT (strong_goodP hRT hS z).weak, weak_some hRT hS (strong_goodP hRT hS z).weak⟩
  clear h hg hu hl hL hGA hr hRT hn hS
  generalize weakL g en ag = WL at *
  generalize strongL g en ag = SL at *
  generalize goodB g en ag = GB at *
  have HF1 := Lib.hid F1
  have HF2 := Lib.hid F2
  clear F1 F2
  by_cases hs0 : 0 < SL.length
  · obtain ⟨g1, g2, hw0⟩ := HF2.out hs0
    have g0 := HF1.out hw0
    have G0 := Lib.hid g0
    have G1 := Lib.hid g1
    have G2 := Lib.hid g2
    have z1 : (0 : Int) < (SL.length : Int) := by omega
    have z2 : (0 : Int) < (WL.length : Int) := by omega
    have z3 : ((SL.length : Int) == 0) = false := beq_false_of_ne (by omega)
    clear g0 g1 g2
    go_enter Try.func15, Try.ntmps15
    go_wp2_with (first
      | (go_at_call 53; refine (known18 _).mono ?_; rintro e w8 ⟨rfl, hb⟩; have S8 := Lib.hid (S7.out.more hb); clear hb)
      | (go_at_call 61; refine (HGD.out _ S6.out.below 1 _ SL IS6.out HSL.out).mono ?_; rw [G2.out]; rintro e w7 ⟨rfl, hb⟩; have S7 := Lib.hid (S6.out.more hb); have IW7 := Lib.hid (IW6.out.below hb); have IS7 := Lib.hid (IS6.out.below hb); clear c0 c1 c2 c3 c4; have c0 := cell_of_block S7.out.blk 0 _ rfl; have c1 := cell_of_block S7.out.blk 1 _ rfl; have c2 := cell_of_block S7.out.blk 2 _ rfl; have c3 := cell_of_block S7.out.blk 3 _ rfl; have c4 := cell_of_block S7.out.blk 4 _ rfl; clear hb)
      | (go_at_call 61; refine (HGD.out _ S5.out.below 2 _ SL IS5.out HSL.out).mono ?_; rw [G1.out]; rintro e w6 ⟨rfl, hb⟩; have S6 := Lib.hid (S5.out.more hb); have IW6 := Lib.hid (IW5.out.below hb); have IS6 := Lib.hid (IS5.out.below hb); clear c0 c1 c2 c3 c4; have c0 := cell_of_block S6.out.blk 0 _ rfl; have c1 := cell_of_block S6.out.blk 1 _ rfl; have c2 := cell_of_block S6.out.blk 2 _ rfl; have c3 := cell_of_block S6.out.blk 3 _ rfl; have c4 := cell_of_block S6.out.blk 4 _ rfl; clear hb)
      | (go_at_call 61; refine (HGD.out _ S4.out.below 1 _ WL IW4.out HWL.out).mono ?_; rw [G0.out]; rintro e w5 ⟨rfl, hb⟩; have S5 := Lib.hid (S4.out.more hb); have IW5 := Lib.hid (IW4.out.below hb); have IS5 := Lib.hid (IS4.out.below hb); clear c0 c1 c2 c3 c4; have c0 := cell_of_block S5.out.blk 0 _ rfl; have c1 := cell_of_block S5.out.blk 1 _ rfl; have c2 := cell_of_block S5.out.blk 2 _ rfl; have c3 := cell_of_block S5.out.blk 3 _ rfl; have c4 := cell_of_block S5.out.blk 4 _ rfl; clear hb)
      | (go_at_call 56; refine (HS.out _ S3.out.below).mono ?_; rintro e w4 ⟨rv2, rfl, hi, hb⟩; have S4 := Lib.hid (S3.out.more hb); obtain ⟨ra2, rc2, rfl, -⟩ := id hi; have IS4 := Lib.hid hi; have IW4 := Lib.hid (IW3.out.below hb); clear c0 c1 c2 c3 c4; have c0 := cell_of_block S4.out.blk 0 _ rfl; have c1 := cell_of_block S4.out.blk 1 _ rfl; have c2 := cell_of_block S4.out.blk 2 _ rfl; have c3 := cell_of_block S4.out.blk 3 _ rfl; have c4 := cell_of_block S4.out.blk 4 _ rfl; clear hb hi)
      | (go_at_call 54; refine (HW.out _ S2.out.below).mono ?_; rintro e w3 ⟨rv, rfl, hi, hb⟩; have S3 := Lib.hid (S2.out.more hb); obtain ⟨ra, rc, rfl, -⟩ := id hi; have IW3 := Lib.hid hi; clear c0 c1 c2 c3 c4; have c0 := cell_of_block S3.out.blk 0 _ rfl; have c1 := cell_of_block S3.out.blk 1 _ rfl; have c2 := cell_of_block S3.out.blk 2 _ rfl; have c3 := cell_of_block S3.out.blk 3 _ rfl; have c4 := cell_of_block S3.out.blk 4 _ rfl; clear hb hi)
      | (go_at_call 60; refine (HR.out _ S1.out.below).mono ?_; rintro e w2 ⟨rfl, hb⟩; have S2 := Lib.hid (S1.out.more hb); clear c0 c1 c2 c3 c4; have c0 := cell_of_block S2.out.blk 0 _ rfl; have c1 := cell_of_block S2.out.blk 1 _ rfl; have c2 := cell_of_block S2.out.blk 2 _ rfl; have c3 := cell_of_block S2.out.blk 3 _ rfl; have c4 := cell_of_block S2.out.blk 4 _ rfl; clear hb)
      | (go_at_call 52; refine (HLT.out _ S0.out.below).mono ?_; rintro e w1 ⟨rfl, hb⟩; have S1 := Lib.hid (S0.out.more hb); have c0 := cell_of_block S1.out.blk 0 _ rfl; have c1 := cell_of_block S1.out.blk 1 _ rfl; have c2 := cell_of_block S1.out.blk 2 _ rfl; have c3 := cell_of_block S1.out.blk 3 _ rfl; have c4 := cell_of_block S1.out.blk 4 _ rfl; clear hb))
    go_ret
    exact ⟨rfl, S8.out.below⟩
  · have hs1 : SL.length = 0 := by omega
    have hsl := List.length_eq_zero_iff.1 hs1
    subst hsl
    by_cases hw0 : 0 < WL.length
    · have G0 := Lib.hid (HF1.out hw0)
      have z2 : (0 : Int) < (WL.length : Int) := by omega
      clear hs0 hs1
      go_enter Try.func15, Try.ntmps15
      go_wp2_with (first
        | (go_at_call 53; refine (known18 _).mono ?_; rintro e w6 ⟨rfl, hb⟩; have S6 := Lib.hid (S5.out.more hb); clear hb)
        | (go_at_call 61; refine (HGD.out _ S4.out.below 1 _ WL IW4.out HWL.out).mono ?_; rw [G0.out]; rintro e w5 ⟨rfl, hb⟩; have S5 := Lib.hid (S4.out.more hb); have IW5 := Lib.hid (IW4.out.below hb); have IS5 := Lib.hid (IS4.out.below hb); clear c0 c1 c2 c3 c4; have c0 := cell_of_block S5.out.blk 0 _ rfl; have c1 := cell_of_block S5.out.blk 1 _ rfl; have c2 := cell_of_block S5.out.blk 2 _ rfl; have c3 := cell_of_block S5.out.blk 3 _ rfl; have c4 := cell_of_block S5.out.blk 4 _ rfl; clear hb)
        | (go_at_call 56; refine (HS.out _ S3.out.below).mono ?_; rintro e w4 ⟨rv2, rfl, hi, hb⟩; have S4 := Lib.hid (S3.out.more hb); obtain ⟨ra2, rc2, rfl, -⟩ := id hi; have IS4 := Lib.hid hi; have IW4 := Lib.hid (IW3.out.below hb); clear c0 c1 c2 c3 c4; have c0 := cell_of_block S4.out.blk 0 _ rfl; have c1 := cell_of_block S4.out.blk 1 _ rfl; have c2 := cell_of_block S4.out.blk 2 _ rfl; have c3 := cell_of_block S4.out.blk 3 _ rfl; have c4 := cell_of_block S4.out.blk 4 _ rfl; clear hb hi)
        | (go_at_call 54; refine (HW.out _ S2.out.below).mono ?_; rintro e w3 ⟨rv, rfl, hi, hb⟩; have S3 := Lib.hid (S2.out.more hb); obtain ⟨ra, rc, rfl, -⟩ := id hi; have IW3 := Lib.hid hi; clear c0 c1 c2 c3 c4; have c0 := cell_of_block S3.out.blk 0 _ rfl; have c1 := cell_of_block S3.out.blk 1 _ rfl; have c2 := cell_of_block S3.out.blk 2 _ rfl; have c3 := cell_of_block S3.out.blk 3 _ rfl; have c4 := cell_of_block S3.out.blk 4 _ rfl; clear hb hi)
        | (go_at_call 60; refine (HR.out _ S1.out.below).mono ?_; rintro e w2 ⟨rfl, hb⟩; have S2 := Lib.hid (S1.out.more hb); clear c0 c1 c2 c3 c4; have c0 := cell_of_block S2.out.blk 0 _ rfl; have c1 := cell_of_block S2.out.blk 1 _ rfl; have c2 := cell_of_block S2.out.blk 2 _ rfl; have c3 := cell_of_block S2.out.blk 3 _ rfl; have c4 := cell_of_block S2.out.blk 4 _ rfl; clear hb)
        | (go_at_call 52; refine (HLT.out _ S0.out.below).mono ?_; rintro e w1 ⟨rfl, hb⟩; have S1 := Lib.hid (S0.out.more hb); have c0 := cell_of_block S1.out.blk 0 _ rfl; have c1 := cell_of_block S1.out.blk 1 _ rfl; have c2 := cell_of_block S1.out.blk 2 _ rfl; have c3 := cell_of_block S1.out.blk 3 _ rfl; have c4 := cell_of_block S1.out.blk 4 _ rfl; clear hb))
      go_ret
      exact ⟨rfl, S6.out.below⟩
    · have hw1 : WL.length = 0 := by omega
      have hwl := List.length_eq_zero_iff.1 hw1
      subst hwl
      clear hs0 hs1 hw0 hw1
      go_enter Try.func15, Try.ntmps15
      go_wp2_with (first
        | (go_at_call 53; refine (known18 _).mono ?_; rintro e w5 ⟨rfl, hb⟩; have S5 := Lib.hid (S4.out.more hb); clear hb)
        | (go_at_call 56; refine (HS.out _ S3.out.below).mono ?_; rintro e w4 ⟨rv2, rfl, hi, hb⟩; have S4 := Lib.hid (S3.out.more hb); obtain ⟨ra2, rc2, rfl, -⟩ := id hi; have IS4 := Lib.hid hi; have IW4 := Lib.hid (IW3.out.below hb); clear c0 c1 c2 c3 c4; have c0 := cell_of_block S4.out.blk 0 _ rfl; have c1 := cell_of_block S4.out.blk 1 _ rfl; have c2 := cell_of_block S4.out.blk 2 _ rfl; have c3 := cell_of_block S4.out.blk 3 _ rfl; have c4 := cell_of_block S4.out.blk 4 _ rfl; clear hb hi)
        | (go_at_call 54; refine (HW.out _ S2.out.below).mono ?_; rintro e w3 ⟨rv, rfl, hi, hb⟩; have S3 := Lib.hid (S2.out.more hb); obtain ⟨ra, rc, rfl, -⟩ := id hi; have IW3 := Lib.hid hi; clear c0 c1 c2 c3 c4; have c0 := cell_of_block S3.out.blk 0 _ rfl; have c1 := cell_of_block S3.out.blk 1 _ rfl; have c2 := cell_of_block S3.out.blk 2 _ rfl; have c3 := cell_of_block S3.out.blk 3 _ rfl; have c4 := cell_of_block S3.out.blk 4 _ rfl; clear hb hi)
        | (go_at_call 60; refine (HR.out _ S1.out.below).mono ?_; rintro e w2 ⟨rfl, hb⟩; have S2 := Lib.hid (S1.out.more hb); clear c0 c1 c2 c3 c4; have c0 := cell_of_block S2.out.blk 0 _ rfl; have c1 := cell_of_block S2.out.blk 1 _ rfl; have c2 := cell_of_block S2.out.blk 2 _ rfl; have c3 := cell_of_block S2.out.blk 3 _ rfl; have c4 := cell_of_block S2.out.blk 4 _ rfl; clear hb)
        | (go_at_call 52; refine (HLT.out _ S0.out.below).mono ?_; rintro e w1 ⟨rfl, hb⟩; have S1 := Lib.hid (S0.out.more hb); have c0 := cell_of_block S1.out.blk 0 _ rfl; have c1 := cell_of_block S1.out.blk 1 _ rfl; have c2 := cell_of_block S1.out.blk 2 _ rfl; have c3 := cell_of_block S1.out.blk 3 _ rfl; have c4 := cell_of_block S1.out.blk 4 _ rfl; clear hb))
      go_ret
      exact ⟨rfl, S5.out.below⟩
end Go.Proofs.Ytnlaonppgebpoaa
