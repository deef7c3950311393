/-
  spinnakerlaw19.LassoFair: the walk. (Written by gen_lassofair.py.)
-/
import Derived.Test.YtnlaonppgebpoaaBoxL
import Derived.Test.YtnlaonppgebpoaaFound19
namespace Go.Proofs.Ytnlaonppgebpoaa
open Go.RowKit

theorem own_capF {w : World} {base : Nat} {e : TypeId} {size n c : Nat} {a : Option Addr} {xs : List Value} (h : w.ownsRow base e size (.slice a n c) n xs) : n ≤ c ∧ c ≤ maxLen := by
  rcases h.2 with ⟨e1, h0⟩ | ⟨g, cap, cur, e1, -, -, h1, h2, -⟩
  · cases e1; exact ⟨Nat.le_refl _, by unfold maxLen; omega⟩
  · cases e1; exact ⟨h1, h2⟩
/-- the circle, with room -/
def RoomAt (w : World) (v : Value) (l : List Int) : Prop := ∃ ca cc, v = .slice ca l.length cc ∧ l.length ≤ cc ∧ cc ≤ 9223372036854775807 ∧ ∀ k, k < l.length → ∃ b o, ca = some ⟨b, o, none⟩ ∧ w.cell? ⟨b, o + k, none⟩ = some (.int .i64 (l.getD k 0))
theorem room_own {w : World} {base : Nat} {v : Value} {l : List Int} (h : w.ownsRow base 3 1 v l.length (l.map (Value.int .i64))) : RoomAt w v l := by
  obtain ⟨ca, cc, rfl⟩ := own_var h
  obtain ⟨h1, h2⟩ := own_capF h
  obtain ⟨a, c, e, h3⟩ := own_ints h
  cases e
  unfold maxLen at h2
  exact ⟨_, _, rfl, h1, by omega, h3⟩
set_option maxRecDepth 100000 in
set_option maxHeartbeats 16000000 in
theorem lcycle_own (v u pv : Value) (g : Gr) (en : List (List Bool)) (ag mode : Int) (part : List Int) (w : World) (h : GraphAt w v g) (hu : BRowsAt w u en) (hp : IntsAt w pv part) (hl : part.length ≤ 1000000) (hn : nodesN g ≤ 100000) (hgood : goodB g en ag mode part = true) (hw : GdOk g en ag mode part) :
    Calls Try.prog 68 #[v, u, .int .i64 ag, .int .i64 mode, pv] w fun e w' => ∃ rv, e = .returned (.tuple #[rv, .bool true]) ∧ RoomAt w' rv (walkG g en ag mode part).2.1 ∧ Below w.heap.size w w' := by
  obtain ⟨sa, aa, ta, sc, ac, tc, rfl, -⟩ := h.var
  have hb := balloc w (.cells #[.slice sa g.S.length sc, .slice aa g.A.length ac, .slice ta g.T.length tc] 26)
  have B0 := Lib.hid hb
  have HB := Lib.hid (h.below hb)
  have HUB := Lib.hid (hu.below hb)
  have HPB := Lib.hid (hp.below hb)
  obtain ⟨ua, uc, rfl, -⟩ := hu
  obtain ⟨pa, pc, rfl, -⟩ := hp
  unfold walkG
  rw [if_pos hgood]
  have hag := goodB_nat hgood
  rw [hag] at hgood
  have HC := Lib.hid (walk_yes _ _ _ g en ag.toNat mode part _ HB.out HUB.out HPB.out hl hn hw.ne hgood hw.ok hw.home)
  rw [← hag] at HC
  clear h hb hgood HB HUB HPB hw hag
  generalize walkL g en mode (maskL (nodesN g) part) (nodesN g) (leastL part) ag.toNat = WL at *
  generalize maskL (nodesN g) part = inl at *
  go_enter Try.func68, Try.ntmps68
  go_wp2_with (go_at_call 100; refine HC.out.mono ?_; rintro e w2 ⟨wb, ib, gS, gA, gT, wv, sv, rfl, hM⟩; have HM := Lib.hid hM; have c3 := cell_of_block hM.hs 5 _ rfl; clear hM)
  obtain ⟨wa, wc, rfl⟩ := own_var HM.out.rw
  refine bodyPost_ret (v := .tuple #[.slice wa WL.2.1.length wc, .bool true]) (by simp [results, Try.results68, go_sem]) rfl ?_
  exact ⟨_, rfl, room_own HM.out.rw, B0.out.trans (HM.out.below.mono B0.out.size)⟩
/-- one of a row, as a row -/
theorem ints_one {w : World} {b o : Nat} {x : Int} {cc : Nat} (h : w.cell? ⟨b, o, none⟩ = some (.int .i64 x)) : IntsAt w (.slice (some ⟨b, o, none⟩) 1 cc) [x] := ⟨_, _, rfl, fun j hj => by
  obtain rfl : j = 0 := by simpa using hj
  exact ⟨b, o, rfl, h⟩⟩
/-- how many of the first k are so -/
def onN (p : Nat → Bool) : Nat → Nat
  | 0 => 0
  | k + 1 => onN p k + if p k = true then 1 else 0
theorem onN_le (p : Nat → Bool) : ∀ k, onN p k ≤ k
  | 0 => Nat.le_refl _
  | k + 1 => by have := onN_le p k; rw [onN]; split <;> omega
theorem onN_lt {p : Nat → Bool} : ∀ {k i : Nat}, i < k → p i = false → onN p k < k
  | 0, _, h, _ => by omega
  | k + 1, i, h, hp => by
    rw [onN]
    by_cases e : i = k
    · subst e
      have := onN_le p i
      rw [hp, if_neg (by simp)]; omega
    · have := onN_lt (k := k) (i := i) (by omega) hp
      split <;> omega
theorem onN_none {p : Nat → Bool} : ∀ {k : Nat}, (∀ i, i < k → p i = false) → onN p k = 0
  | 0, _ => rfl
  | k + 1, h => by rw [onN, h k (by omega), onN_none (fun i hi => h i (by omega))]; rfl
/-- whether an agent is among the first k -/
def acK (c : List Int) (a : Int) (k : Nat) : Bool := decide (a ∈ c.take k)
theorem acK_zero (c : List Int) (a : Int) : acK c a 0 = false := by unfold acK; simp
theorem acK_yes {c : List Int} {a : Int} {k : Nat} (hk : k < c.length) (h : acK c a k = true ∨ c.getD k 0 = a) : acK c a (k + 1) = true := by
  unfold acK at *
  rw [decide_eq_true_iff] at *
  rw [List.take_add_one, List.getElem?_eq_getElem hk, List.mem_append]
  rcases h with h | h
  · exact .inl h
  · right
    rw [List.getD_eq_getElem?_getD, List.getElem?_eq_getElem hk] at h
    simp at h ⊢; exact h.symm
theorem acK_no {c : List Int} {a : Int} {k : Nat} (hk : k < c.length) (h : acK c a k = false) (hn : c.getD k 0 ≠ a) : acK c a (k + 1) = false := by
  unfold acK at *
  rw [decide_eq_false_iff_not] at *
  rw [List.take_add_one, List.getElem?_eq_getElem hk, List.mem_append]
  rintro (q | q)
  · exact h q
  · rw [List.getD_eq_getElem?_getD, List.getElem?_eq_getElem hk] at hn
    simp at q hn; exact hn q.symm
theorem acK_mem {c : List Int} {a : Int} (h : a ∈ c) : acK c a c.length = true := by unfold acK; rw [List.take_length]; exact decide_eq_true h

set_option maxRecDepth 100000 in
set_option maxHeartbeats 64000000 in
theorem lassoFair (v : Value) (strong : Bool) (g : Gr) (en : List (List Bool)) (ag : Int) (w : World) (h : TabArg w v g en ag) :
    Calls Try.prog 18 #[v, .bool strong] w fun e w' => e = .returned (.bool true) ∧ Below w.heap.size w w' := by
  have HON := Lib.hid (fun (w' : World) (hb : Below w.heap.size w w') => once_ok v g en ag w' (h.below hb))
  obtain ⟨sa, aa, ta, sc, ac, tc, ua, uc, rfl, hg, hu⟩ := h.var
  have S0 := Lib.hid (BxL.start w #[.slice sa g.S.length sc, .slice aa g.A.length ac, .slice ta g.T.length tc, .slice ua en.length uc, .int .i64 ag] 55)
  cases hl : onceB g en ag
  · rw [hl] at HON
    clear h hg hu hl
    go_enter Try.func18, Try.ntmps18
    go_wp2_with (first
      | (go_at_call 66; refine (HON.out _ S0.out.below).mono ?_; rintro e w1 ⟨rfl, hb⟩; have S1 := Lib.hid (S0.out.more hb); clear hb)
      | (go_at_call 67; refine (known19 _).mono ?_; rintro e w2 ⟨rfl, hb⟩; have S2 := Lib.hid (S1.out.more hb); clear hb))
    go_ret
    exact ⟨rfl, S2.out.below⟩
  rw [hl] at HON
  have hL := onceB_spec hl
  have hRT := rtB_rt hL.2.2.2.2.2.1
  have ho : OnceP g := hL.2.2.2.2.2.2.once
  have hGA : GraphAt w (.agg #[.slice sa g.S.length sc, .slice aa g.A.length ac, .slice ta g.T.length tc]) g := hg.small (by omega) (by omega) (by omega)
  have hn : nodesN g ≤ 100000 := by have := nodesN_le (g := g); omega
  have hS : g.S.length ≤ 1000 := by omega
  have h0 : 0 ≤ ag := hRT.h0
  have hag : ag ≤ 20 := hL.2.2.2.2.1
  obtain ⟨mode, hm⟩ : ∃ mode : Int, mode = if strong = true then 2 else 1 := ⟨_, rfl⟩
  have hmm : mode = 1 ∨ mode = 2 := by rw [hm]; cases strong <;> simp
  have HPT : (findL g en ag mode).length ≤ 1000000 := findL_len (by omega) hn
  have HF := Lib.hid (fun (w' : World) (hb : Below w.heap.size w w') => rfind_ok _ _ g en ag mode w' (hGA.below hb) (hu.below hb) hn (by omega))
  by_cases hpt : 0 < (findL g en ag mode).length
  rotate_left
  · have hgd : goodB g en ag mode (findL g en ag mode) = false := by rw [found_iff hRT (by omega) hmm]; exact decide_eq_false hpt
    have HC := Lib.hid (fun (w' : World) (hb : Below w.heap.size w w') (pv : Value) (hp : IntsAt w' pv (findL g en ag mode)) => (by
      have := lcycle_ok _ _ pv g en ag mode (findL g en ag mode) w' (hGA.below hb) (hu.below hb) hp HPT hn (gdG_ok hS ho)
      rw [walkG_bad hgd, hgd] at this
      exact this : Calls Try.prog 68 #[.agg #[.slice sa g.S.length sc, .slice aa g.A.length ac, .slice ta g.T.length tc], .slice ua en.length uc, .int .i64 ag, .int .i64 mode, pv] w' fun e w2 => ∃ rv, e = .returned (.tuple #[rv, .bool false]) ∧ IntsAt w2 rv [] ∧ Below w'.heap.size w' w2))
    clear h hg hu hl hL hGA hn hS ho hRT hmm hgd
    generalize findL g en ag mode = PT at *
    have y0 : decide ((0 : Int) < (PT.length : Int)) = false := decide_eq_false (by omega)
    cases strong
    all_goals
      first | rw [if_pos rfl] at hm | rw [if_neg (by simp)] at hm
      subst hm
      go_enter Try.func18, Try.ntmps18
      go_wp2_with (first
        | (go_at_call 67; refine (known19 _).mono ?_; rintro e w4 ⟨rfl, hb⟩; have S4 := Lib.hid (S3.out.more hb); clear hb)
        | (go_at_call 68; refine (HC.out _ S2.out.below _ I2.out).mono ?_; rintro e w3 ⟨rv, rfl, hi, hb⟩; obtain ⟨ra, rc, rfl, -⟩ := id hi; have S3 := Lib.hid (S2.out.more hb); clear hb hi)
        | (go_at_call 59; refine (HF.out _ S1.out.below).mono ?_; rintro e w2 ⟨rv, rfl, hi, hb⟩; obtain ⟨pa, pc, rfl, hpp⟩ := id hi; have HPP := Lib.hid hpp; have I2 := Lib.hid hi; have S2 := Lib.hid (S1.out.more hb); clear c0 c1 c2 c3 c4; have c0 := cell_of_block S2.out.blk 0 _ rfl; have c1 := cell_of_block S2.out.blk 1 _ rfl; have c2 := cell_of_block S2.out.blk 2 _ rfl; have c3 := cell_of_block S2.out.blk 3 _ rfl; have c4 := cell_of_block S2.out.blk 4 _ rfl; clear hb hi hpp)
        | (go_at_call 66; refine (HON.out _ S0.out.below).mono ?_; rintro e w1 ⟨rfl, hb⟩; have S1 := Lib.hid (S0.out.more hb); have c0 := cell_of_block S1.out.blk 0 _ rfl; have c1 := cell_of_block S1.out.blk 1 _ rfl; have c2 := cell_of_block S1.out.blk 2 _ rfl; have c3 := cell_of_block S1.out.blk 3 _ rfl; have c4 := cell_of_block S1.out.blk 4 _ rfl; clear hb))
      go_ret
      exact ⟨rfl, S4.out.below⟩
  have hgd := found_good hRT (by omega) hmm hpt
  obtain ⟨A, rfl, hA, hrows⟩ := hRT.nat
  have FP := fairp_ok hRT (by omega) ho hm hpt
  have HC := Lib.hid (fun (w' : World) (hb : Below w.heap.size w w') (pv : Value) (hp : IntsAt w' pv (findL g en (A : Nat) mode)) => lcycle_own _ _ pv g en (A : Nat) mode (findL g en (A : Nat) mode) w' (hGA.below hb) (hu.below hb) hp HPT hn hgd (gdG_ok hS ho hgd))
  have HSP := Lib.hid (fun (w' : World) (hb : Below w.heap.size w w') (pv : Value) (hp : IntsAt w' pv (findL g en (A : Nat) mode)) => lstops_ok _ _ pv g en (A : Nat) mode (findL g en (A : Nat) mode) w' (hGA.below hb) (hu.below hb) hp HPT hn (gdG_ok hS ho))
  have HFO := Lib.hid (fun (w' : World) (hb : Below w.heap.size w w') (pv : Value) (x : Int) (p : List Int) (hp : IntsAt w' pv p) (hl : p.length ≤ 1000000) => rfol_ok _ pv g x p w' (hGA.below hb) hp hl)
  obtain ⟨hw1, -⟩ := walkG_len (en := en) (ag := (A : Nat)) (mode := mode) (part := findL g en (A : Nat) mode) hS ho
  have HFF := Lib.hid FP.fol
  have HRW := Lib.hid hrows
  obtain ⟨ua', uc', e0, hurow⟩ := id hu
  cases e0
  have HUR := Lib.hid hurow
  have hf0 := FP.first
  have hfl := FP.last
  have hfne := FP.ne
  have hlen := FP.len
  have FIN := Lib.hid FP.inn
  have FWK := Lib.hid FP.weak
  have FST := Lib.hid FP.strong
  clear h hg hu hl hL hGA hn hS ho hRT hmm hgd FP hrows hurow
  generalize (walkG g en (A : Nat) mode (findL g en (A : Nat) mode)).2.1 = WL at *
  generalize (walkG g en (A : Nat) mode (findL g en (A : Nat) mode)).2.2 = WT at *
  generalize findL g en (A : Nat) mode = PT at *
  generalize folL g = FO at *
  have y0 : decide ((0 : Int) < (PT.length : Int)) = true := decide_eq_true (by omega)
  have y1 : ((WL.length : Int) == 0) = false := beq_false_of_ne (by omega)
  have hlenI : (WT.length : Int) = (WL.length : Int) + 1 := by omega
  have y2 : (((WT.length : Nat) : Int) != (WL.length : Int) + 1) = false := by rw [hlenI]; simp
  have HLN := Lib.hid hlen
  have hwr : IntKind.i64.wrap ((WL.length : Int) + 1) = (WL.length : Int) + 1 := IntWalk.i64_in _ (by omega)
  cases strong
  · first | rw [if_pos rfl] at hm | rw [if_neg (by simp)] at hm
    subst hm
    go_enter Try.func18, Try.ntmps18
    go_wp2_with (first
      | (go_at_call 70; refine (HSP.out _ S3.out.below _ I3.out).mono ?_; rintro e w4 ⟨rv, rfl, hi, hb⟩; obtain ⟨ta2, tc2, rfl, htt⟩ := id hi; have HTT := Lib.hid htt; have HCC := Lib.hid (fun k hk => (by obtain ⟨b, o, e, q⟩ := HCC0.out k hk; exact ⟨b, o, e, bkeep hb q⟩ : ∃ b o, ra = some ⟨b, o, none⟩ ∧ w4.cell? ⟨b, o + k, none⟩ = some (.int .i64 (WL.getD k 0)))); have I4 := Lib.hid (I3.out.below hb); have S4 := Lib.hid (S3.out.more hb); clear c0 c1 c2 c3 c4; have c0 := cell_of_block S4.out.blk 0 _ rfl; have c1 := cell_of_block S4.out.blk 1 _ rfl; have c2 := cell_of_block S4.out.blk 2 _ rfl; have c3 := cell_of_block S4.out.blk 3 _ rfl; have c4 := cell_of_block S4.out.blk 4 _ rfl; clear hb hi htt HCC0)
      | (go_at_call 68; refine (HC.out _ S2.out.below _ I2.out).mono ?_; rintro e w3 ⟨rv, rfl, hi, hb⟩; obtain ⟨ra, rc, rfl, hrc, hrm, hcc⟩ := hi; have HCC0 := Lib.hid hcc; have I3 := Lib.hid (I2.out.below hb); have S3 := Lib.hid (S2.out.more hb); clear c0 c1 c2 c3 c4; have c0 := cell_of_block S3.out.blk 0 _ rfl; have c1 := cell_of_block S3.out.blk 1 _ rfl; have c2 := cell_of_block S3.out.blk 2 _ rfl; have c3 := cell_of_block S3.out.blk 3 _ rfl; have c4 := cell_of_block S3.out.blk 4 _ rfl; clear hb hcc)
      | (go_at_call 59; refine (HF.out _ S1.out.below).mono ?_; rintro e w2 ⟨rv, rfl, hi, hb⟩; obtain ⟨pa, pc, rfl, hpp⟩ := id hi; have HPP := Lib.hid hpp; have I2 := Lib.hid hi; have S2 := Lib.hid (S1.out.more hb); clear c0 c1 c2 c3 c4; have c0 := cell_of_block S2.out.blk 0 _ rfl; have c1 := cell_of_block S2.out.blk 1 _ rfl; have c2 := cell_of_block S2.out.blk 2 _ rfl; have c3 := cell_of_block S2.out.blk 3 _ rfl; have c4 := cell_of_block S2.out.blk 4 _ rfl; clear hb hi hpp)
      | (go_at_call 66; refine (HON.out _ S0.out.below).mono ?_; rintro e w1 ⟨rfl, hb⟩; have S1 := Lib.hid (S0.out.more hb); have c0 := cell_of_block S1.out.blk 0 _ rfl; have c1 := cell_of_block S1.out.blk 1 _ rfl; have c2 := cell_of_block S1.out.blk 2 _ rfl; have c3 := cell_of_block S1.out.blk 3 _ rfl; have c4 := cell_of_block S1.out.blk 4 _ rfl; clear hb))
    obtain ⟨pa3, pc3, e3, hpp⟩ := id I4.out
    cases e3
    obtain ⟨b1, o1, rfl, d1⟩ := hpp 0 (by omega)
    obtain ⟨b2, o2, rfl, d2⟩ := HTT.out 0 (by omega)
    obtain ⟨b2', o2', e2, d3⟩ := HTT.out WL.length (by omega)
    cases e2
    rw [hf0] at d2
    rw [hfl] at d3
    clear hpp
    rw [Nat.add_zero] at d1 d2
    generalize PT.getD 0 0 = p0 at *
    have y3 : (p0 != p0) = false := by simp
    have HP0 := Lib.hid d1
    go_quiet (fail)
    clear d1 d2 d3
    go_wp2_with fail
    go_loopg [10] WL.length (fun fu c wr => ∃ k : Nat, k + fu = WL.length ∧ c = .int .i64 k ∧ Hid (Below w4.heap.size w4 wr))
    case atStart => exact ⟨0, by omega, rfl, Lib.hid (by first | exact (Below.refl _ _).drew | exact bdrewN (Below.refl _ _) _ | exact Below.refl _ _)⟩
    case round =>
      obtain ⟨k, hk, rfl, HBR⟩ := hrel
      by_cases hlt : k < WL.length
      · have z1 : (k : Int) < (WL.length : Int) := by omega
        have hkr : k < rc := by omega
        have z5 : (k : Int) < (WL.length : Int) + 1 := by omega
        have z6 : (k : Int) + 1 ≤ (rc : Int) := by omega
        have z7 : k + 1 ≤ rc := by omega
        have z8 : ¬ rc = k := by omega
        have z9 : 0 ≤ (k : Int) + 1 := by omega
        have hwk : IntKind.i64.wrap ((k : Int) + 1) = (k : Int) + 1 := IntWalk.i64_in _ (by omega)
        obtain ⟨b3, o3, rfl, d1⟩ := HCC.out k hlt
        obtain ⟨b2', o2', e2, d2⟩ := HTT.out k (by omega)
        cases e2
        obtain ⟨b2', o2', e2, d3⟩ := HTT.out (k + 1) (by omega)
        cases e2
        have HI1 := Lib.hid (ints_one (cc := rc - k) d1)
        have d2 := bkeep HBR.out d2
        have d3 := bkeep HBR.out d3
        have S5 := Lib.hid (S4.out.more HBR.out)
        clear c0 c1 c2 c3 c4
        have c0 := cell_of_block S5.out.blk 0 _ rfl
        have c1 := cell_of_block S5.out.blk 1 _ rfl
        have c2 := cell_of_block S5.out.blk 2 _ rfl
        have c3 := cell_of_block S5.out.blk 3 _ rfl
        have c4 := cell_of_block S5.out.blk 4 _ rfl
        have HFK := Lib.hid (HFF.out k hlt)
        have HCF := Lib.hid (fun (w' : World) (hb : Below wr.heap.size wr w') => (by have := HFO.out w' (S5.out.more hb).below _ (WT.getD k 0) [WL.getD k 0] (HI1.out.below (HBR.out.trans (hb.mono HBR.out.size))) (by simp); rw [HFK.out] at this; exact this : Calls Try.prog 72 #[.agg #[.slice sa g.S.length sc, .slice aa g.A.length ac, .slice ta g.T.length tc], .int .i64 (WT.getD k 0), .slice (some ⟨b3, o3 + k, none⟩) 1 (rc - k)] w' fun e w2 => e = .returned (.int .i64 (WT.getD (k + 1) 0)) ∧ Below w'.heap.size w' w2))
        clear d1
        generalize WT.getD k 0 = x at d2 HCF
        generalize WT.getD (k + 1) 0 = y at d3 HCF
        clear HFK HI1
        go_wp2_with fail
        refine region_rel (fun q => match q with | 99 => u99 | 100 => u100 | 101 => u101 | 102 => u102 | 103 => u103 | 104 => u104 | 105 => u105 | 106 => u106 | 107 => u107 | 108 => u108 | 109 => u109 | 110 => u110 | 111 => u111 | 112 => u112 | 113 => u113 | 114 => u114 | 115 => u115 | 116 => u116 | _ => undef)
          (fun f => { tmps := #[.agg #[.slice sa g.S.length sc, .slice aa g.A.length ac, .slice ta g.T.length tc, .slice ua en.length uc, .int .i64 (A : Nat)], .bool false, .pointer (some ⟨w.heap.size, 0, none⟩), undef, u4, .int .i64 1, .slice (some ⟨b1, o1, none⟩) PT.length pc, .slice (some ⟨b3, o3, none⟩) WL.length rc, .bool true, .slice (some ⟨b2, o2, none⟩) (WL.length + 1) tc2, .int .i64 (k : Nat), undef, undef, undef, undef, .agg #[.slice sa g.S.length sc, .slice aa g.A.length ac, .slice ta g.T.length tc, .slice ua en.length uc, .int .i64 (A : Nat)], .bool true, .bool false, undef, .bool false, .pointer (some ⟨w.heap.size, 0, none⟩), .agg #[.slice sa g.S.length sc, .slice aa g.A.length ac, .slice ta g.T.length tc], .pointer (some ⟨w.heap.size, 3, none⟩), .slice ua en.length uc, .pointer (some ⟨w.heap.size, 4, none⟩), .int .i64 (A : Nat), .int .i64 1, .slice (some ⟨b1, o1, none⟩) PT.length pc, .tuple #[.slice (some ⟨b3, o3, none⟩) WL.length rc, .bool true], .pointer (some ⟨w.heap.size, 0, none⟩), .agg #[.slice sa g.S.length sc, .slice aa g.A.length ac, .slice ta g.T.length tc], .pointer (some ⟨w.heap.size, 3, none⟩), .slice ua en.length uc, .pointer (some ⟨w.heap.size, 4, none⟩), .int .i64 (A : Nat), .int .i64 1, .slice (some ⟨b1, o1, none⟩) PT.length pc, .tuple #[.slice (some ⟨b3, o3, none⟩) WL.length rc, .bool true], .slice (some ⟨b3, o3, none⟩) WL.length rc, .bool true, .bool true, .slice (some ⟨b1, o1, none⟩) PT.length pc, .int .i64 (PT.length : Nat), .bool true, .bool false, .bool true, .bool false, undef, undef, undef, undef, undef, undef, .pointer (some ⟨w.heap.size, 0, none⟩), .agg #[.slice sa g.S.length sc, .slice aa g.A.length ac, .slice ta g.T.length tc], .pointer (some ⟨w.heap.size, 3, none⟩), .slice ua en.length uc, .pointer (some ⟨w.heap.size, 4, none⟩), .int .i64 (A : Nat), .int .i64 1, .slice (some ⟨b1, o1, none⟩) PT.length pc, .slice (some ⟨b2, o2, none⟩) (WL.length + 1) tc2, .slice (some ⟨b3, o3, none⟩) WL.length rc, .int .i64 (WL.length : Nat), .bool false, .bool false, .slice (some ⟨b2, o2, none⟩) (WL.length + 1) tc2, .int IntKind.i64 (↑WL.length + 1), .slice (some ⟨b3, o3, none⟩) WL.length rc, .int .i64 (WL.length : Nat), .int IntKind.i64 (↑WL.length + 1), .bool false, .bool false, .bool false, .slice (some ⟨b2, o2, none⟩) (WL.length + 1) tc2, .pointer (some ⟨b2, o2, none⟩), .int .i64 p0, .slice (some ⟨b1, o1, none⟩) PT.length pc, .pointer (some ⟨b1, o1, none⟩), .int .i64 p0, .bool false, .bool false, .bool false, .slice (some ⟨b2, o2, none⟩) (WL.length + 1) tc2, .slice (some ⟨b3, o3, none⟩) WL.length rc, .int .i64 (WL.length : Nat), .pointer (some ⟨b2, o2 + WL.length, none⟩), .int .i64 p0, .slice (some ⟨b1, o1, none⟩) PT.length pc, .pointer (some ⟨b1, o1, none⟩), .int .i64 p0, .bool false, .bool false, .int .i64 (k : Nat), .slice (some ⟨b3, o3, none⟩) WL.length rc, .int .i64 (WL.length : Nat), .bool true, u97, u98, f 99, f 100, f 101, f 102, f 103, f 104, f 105, f 106, f 107, f 108, f 109, f 110, f 111, f 112, f 113, f 114, f 115, f 116, undef, undef, undef, undef, undef, undef, undef, undef, undef, undef, undef, undef, undef, undef, undef, undef, undef, undef, undef, undef, undef, undef, undef, undef, undef, undef, undef, undef, undef, undef, undef, undef, undef, undef, undef, undef, undef, undef, undef, undef, undef, undef, undef, undef, undef, undef, undef, undef, undef, undef], defers := [] }) (fun j => j + 99)
          (relL [.eq (.pointer (some ⟨w.heap.size, 0, none⟩)), .eq (.agg #[.slice sa g.S.length sc, .slice aa g.A.length ac, .slice ta g.T.length tc]), .eq (.slice (some ⟨b2, o2, none⟩) (WL.length + 1) tc2), .eq (.int .i64 (k : Nat)), .eq (.pointer (some ⟨b2, o2 + k, none⟩)), .eq (.int .i64 x), .eq (.slice (some ⟨b3, o3, none⟩) WL.length rc), .eq (.int .i64 (k : Nat)), .eq (.int .i64 (k : Nat)), .eq (.int .i64 ((k : Int) + 1)), .eq (.slice (some ⟨b3, o3 + k, none⟩) 1 (rc - k)), .eq (.int .i64 y), .eq (.slice (some ⟨b2, o2, none⟩) (WL.length + 1) tc2), .eq (.int .i64 (k : Nat)), .eq (.int .i64 ((k : Int) + 1)), .eq (.pointer (some ⟨b2, o2 + (k + 1), none⟩)), .eq (.int .i64 y), .eq (.bool false)])
          rfl (by kernel_rfl) (fun i u w w' hb h => RK.mono _ hb h) (by kernel_rfl) (by kernel_rfl) ?_ ?_ ?_
        · intro j hj f v
          rcases j with _ | _ | _ | _ | _ | _ | _ | _ | _ | _ | _ | _ | _ | _ | _ | _ | _ | _ | j
          all_goals first | rfl | (simp at hj; omega)
        · refine ⟨?_, ?_, ?_, ?_, ?_, ?_, ?_, ?_, ?_, ?_, ?_, ?_, ?_, ?_, ?_, ?_, ?_, ?_, trivial⟩
          · intro f w' hb hd K hK
            dsimp only
            go_simp
            exact hK (.pointer (some ⟨w.heap.size, 0, none⟩)) w' (Below.refl _ _) rfl
          · intro f w' hb hd K hK
            have h0 : f 99 = (.pointer (some ⟨w.heap.size, 0, none⟩)) := hd 0 (by kernel_rfl)
            have e0 := bkeep hb c0
            have e1 := bkeep hb c1
            have e2 := bkeep hb c2
            dsimp only
            go_simp
            have q := hK (.agg #[.slice sa g.S.length sc, .slice aa g.A.length ac, .slice ta g.T.length tc]) w' (Below.refl _ _) rfl
            simp only [h0] at q
            exact q
          · intro f w' hb hd K hK
            dsimp only
            go_simp
            exact hK (.slice (some ⟨b2, o2, none⟩) (WL.length + 1) tc2) w' (Below.refl _ _) rfl
          · intro f w' hb hd K hK
            dsimp only
            go_simp
            exact hK (.int .i64 (k : Nat)) w' (Below.refl _ _) rfl
          · intro f w' hb hd K hK
            have h0 : f 101 = (.slice (some ⟨b2, o2, none⟩) (WL.length + 1) tc2) := hd 2 (by kernel_rfl)
            have h1 : f 102 = (.int .i64 (k : Nat)) := hd 3 (by kernel_rfl)
            dsimp only
            go_simp
            have q := hK (.pointer (some ⟨b2, o2 + k, none⟩)) w' (Below.refl _ _) rfl
            simp only [h0, h1] at q
            exact q
          · intro f w' hb hd K hK
            have h0 : f 103 = (.pointer (some ⟨b2, o2 + k, none⟩)) := hd 4 (by kernel_rfl)
            have e0 := bkeep hb d2
            dsimp only
            go_simp
            have q := hK (.int .i64 x) w' (Below.refl _ _) rfl
            simp only [h0] at q
            exact q
          · intro f w' hb hd K hK
            dsimp only
            go_simp
            exact hK (.slice (some ⟨b3, o3, none⟩) WL.length rc) w' (Below.refl _ _) rfl
          · intro f w' hb hd K hK
            dsimp only
            go_simp
            exact hK (.int .i64 (k : Nat)) w' (Below.refl _ _) rfl
          · intro f w' hb hd K hK
            dsimp only
            go_simp
            exact hK (.int .i64 (k : Nat)) w' (Below.refl _ _) rfl
          · intro f w' hb hd K hK
            have h0 : f 107 = (.int .i64 (k : Nat)) := hd 8 (by kernel_rfl)
            dsimp only
            go_simp
            have q := hK (.int .i64 ((k : Int) + 1)) w' (Below.refl _ _) rfl
            simp only [h0] at q
            exact q
          · intro f w' hb hd K hK
            have h0 : f 105 = (.slice (some ⟨b3, o3, none⟩) WL.length rc) := hd 6 (by kernel_rfl)
            have h1 : f 106 = (.int .i64 (k : Nat)) := hd 7 (by kernel_rfl)
            have h2 : f 108 = (.int .i64 ((k : Int) + 1)) := hd 9 (by kernel_rfl)
            dsimp only
            go_simp
            have q := hK (.slice (some ⟨b3, o3 + k, none⟩) 1 (rc - k)) w' (Below.refl _ _) rfl
            simp only [h0, h1, h2] at q
            exact q
          · intro f w' hb hd K hK
            have h0 : f 100 = (.agg #[.slice sa g.S.length sc, .slice aa g.A.length ac, .slice ta g.T.length tc]) := hd 1 (by kernel_rfl)
            have h1 : f 104 = (.int .i64 x) := hd 5 (by kernel_rfl)
            have h2 : f 109 = (.slice (some ⟨b3, o3 + k, none⟩) 1 (rc - k)) := hd 10 (by kernel_rfl)
            have HO := Lib.hid (HCF.out w' ((Below.refl _ wr).drew.trans hb))
            dsimp only
            go_simp
            go_wp2_with (go_at_call 72; refine HO.out.mono ?_; rintro e w2 ⟨rfl, hb2⟩)
            have q := hK (.int .i64 y) w2 hb2 rfl
            simp only [h0, h1, h2] at q
            exact q
          · intro f w' hb hd K hK
            dsimp only
            go_simp
            exact hK (.slice (some ⟨b2, o2, none⟩) (WL.length + 1) tc2) w' (Below.refl _ _) rfl
          · intro f w' hb hd K hK
            dsimp only
            go_simp
            exact hK (.int .i64 (k : Nat)) w' (Below.refl _ _) rfl
          · intro f w' hb hd K hK
            have h0 : f 112 = (.int .i64 (k : Nat)) := hd 13 (by kernel_rfl)
            dsimp only
            go_simp
            have q := hK (.int .i64 ((k : Int) + 1)) w' (Below.refl _ _) rfl
            simp only [h0] at q
            exact q
          · intro f w' hb hd K hK
            have h0 : f 111 = (.slice (some ⟨b2, o2, none⟩) (WL.length + 1) tc2) := hd 12 (by kernel_rfl)
            have h1 : f 113 = (.int .i64 ((k : Int) + 1)) := hd 14 (by kernel_rfl)
            dsimp only
            go_simp
            have q := hK (.pointer (some ⟨b2, o2 + (k + 1), none⟩)) w' (Below.refl _ _) rfl
            simp only [h0, h1] at q
            exact q
          · intro f w' hb hd K hK
            have h0 : f 114 = (.pointer (some ⟨b2, o2 + (k + 1), none⟩)) := hd 15 (by kernel_rfl)
            have e0 := bkeep hb d3
            dsimp only
            go_simp
            have q := hK (.int .i64 y) w' (Below.refl _ _) rfl
            simp only [h0] at q
            exact q
          · intro f w' hb hd K hK
            have h0 : f 110 = (.int .i64 y) := hd 11 (by kernel_rfl)
            have h1 : f 115 = (.int .i64 y) := hd 16 (by kernel_rfl)
            dsimp only
            go_simp
            have q := hK (.bool false) w' (Below.refl _ _) rfl
            simp only [h0, h1] at q
            exact q
        · intro f w' hb hr
          have h116 : f 116 = .bool false := hr 17 (by decide)
          have HB6 := Lib.hid (HBR.out.trans (hb.mono HBR.out.size))
          clear hr hb
          dsimp only
          rw [h116]
          generalize f 99 = x99
          generalize f 100 = x100
          generalize f 101 = x101
          generalize f 102 = x102
          generalize f 103 = x103
          generalize f 104 = x104
          generalize f 105 = x105
          generalize f 106 = x106
          generalize f 107 = x107
          generalize f 108 = x108
          generalize f 109 = x109
          generalize f 110 = x110
          generalize f 111 = x111
          generalize f 112 = x112
          generalize f 113 = x113
          generalize f 114 = x114
          generalize f 115 = x115
          go_wp2_with fail
          go_roundg (WL.length - (k + 1))
          case measure => omega
          case rel => exact ⟨k + 1, by omega, by simp, by first | exact HB6 | exact Lib.hid HB6.out.drew⟩
      · have hkk : k = WL.length := by omega
        subst hkk
        obtain ⟨wq, hwq⟩ : ∃ x, x = wr := ⟨_, rfl⟩
        subst hwq
        have S6 := Lib.hid (S4.out.more HBR.out)
        have HCC6 := Lib.hid (fun k hk => (by obtain ⟨b, o, e, q⟩ := HCC.out k hk; exact ⟨b, o, e, bkeep HBR.out q⟩ : ∃ b o, ra = some ⟨b, o, none⟩ ∧ wq.cell? ⟨b, o + k, none⟩ = some (.int .i64 (WL.getD k 0))))
        have HTT6 := Lib.hid (fun k (hk : k < WT.length) => (by obtain ⟨b, o, e, q⟩ := HTT.out k hk; exact ⟨b, o, e, bkeep HBR.out q⟩ : ∃ b o, some (⟨b2, o2, none⟩ : Addr) = some ⟨b, o, none⟩ ∧ wq.cell? ⟨b, o + k, none⟩ = some (.int .i64 (WT.getD k 0))))
        have HUR6 := Lib.hid (fun k (hk : k < en.length) => (by obtain ⟨b, o, u, e, q, q2⟩ := HUR.out k hk; exact ⟨b, o, u, e, bkeep S6.out.below q, q2.below S6.out.below⟩ : ∃ b o u, ua = some ⟨b, o, none⟩ ∧ wq.cell? ⟨b, o + k, none⟩ = some u ∧ BoolsAt wq u (en.getD k [])))
        clear HCC HTT HUR HBR
        go_wp2_with fail
        go_loopg [11] A (fun fu c wr2 => ∃ a : Nat, a + fu = A ∧ c = .int .i64 a ∧ Hid (Below wq.heap.size wq wr2))
        case atStart => exact ⟨0, by omega, rfl, Lib.hid (Below.refl _ _)⟩
        case round =>
          obtain ⟨a, ha, rfl, HB2⟩ := hrel
          have S7 := Lib.hid (S6.out.more HB2.out)
          have c4 := cell_of_block S7.out.blk 4 _ rfl
          by_cases hla : a < A
          · have z2 : (a : Int) < (A : Int) := by omega
            obtain ⟨EN, hEN⟩ : ∃ EN : Nat → Bool, ∀ i, EN i = (en.getD (WT.getD i 0).toNat []).getD a false := ⟨fun i => (en.getD (WT.getD i 0).toNat []).getD a false, fun _ => rfl⟩
            have HEN := Lib.hid hEN
            clear hEN
            go_wp2_with fail
            clear c4
            go_loopg [12, 13, 14] WL.length (fun fu ac on c wr3 => ∃ k : Nat, k + fu = WL.length ∧ ac = .bool (acK WL a k) ∧ on = .int .i64 (onN EN k : Nat) ∧ c = .int .i64 k ∧ Hid (Below wq.heap.size wq wr3))
            case atStart => exact ⟨0, by omega, by rw [acK_zero], rfl, rfl, HB2⟩
            case round =>
              clear HB2
              obtain ⟨k, hk, rfl, rfl, rfl, HB3⟩ := hrel
              by_cases hlt : k < WL.length
              · have z1 : (k : Int) < (WL.length : Int) := by omega
                have z3 : (k : Int) < (WL.length : Int) + 1 := by omega
                obtain ⟨b3, o3, rfl, d1⟩ := HCC6.out k hlt
                obtain ⟨b2', o2', e2, d2⟩ := HTT6.out k (by omega)
                cases e2
                obtain ⟨y0', y1'⟩ := FIN.out k (by omega)
                obtain ⟨q, hq⟩ : ∃ q : Nat, WT.getD k 0 = (q : Int) := ⟨(WT.getD k 0).toNat, by omega⟩
                have hqn : q < en.length := by omega
                have z4 : (q : Int) < (en.length : Int) := by omega
                obtain ⟨b4, o4, u4', rfl, d3, hbr⟩ := HUR6.out q hqn
                obtain ⟨r4, rc4, rfl, hbc⟩ := hbr
                have hrl := HRW.out q hqn
                rw [hrl] at d3 hbc
                obtain ⟨b5, o5, rfl, d4⟩ := hbc a hla
                have hen := HEN.out k
                rw [hq, Int.toNat_natCast] at hen
                rw [← hen] at d4
                rw [hq] at d2
                have d1 := bkeep HB3.out d1
                have d2 := bkeep HB3.out d2
                have d3 := bkeep HB3.out d3
                have d4 := bkeep HB3.out d4
                have S8 := Lib.hid (S6.out.more HB3.out)
                have c3 := cell_of_block S8.out.blk 3 _ rfl
                have hon := onN_le EN k
                have E1 := Lib.hid (show ∀ b, EN k = b → onN EN (k + 1) = onN EN k + if b = true then 1 else 0 from fun b hb => by rw [onN, hb])
                have A1 := Lib.hid (acK_yes (a := (a : Int)) hlt)
                have A2 := Lib.hid (acK_no (a := (a : Int)) hlt)
                clear hen hbc hrl hq y0' y1' FIN HRW HEN
                generalize WL.getD k 0 = x at *
                generalize onN EN k = on0 at *
                cases hac : acK WL (a : Int) k
                · by_cases hxa : x = (a : Int)
                  · have A3 := Lib.hid (A1.out (.inr hxa))
                    have n1 : (x == (a : Int)) = true := by simp [hxa]
                    clear A1 A2
                    cases hb : EN k
                    · rw [hb] at d4
                      have E2 := Lib.hid (E1.out _ hb)
                      clear E1
                      go_wp2_with fail
                      (refine region_still (by kernel_rfl) (by kernel_rfl) ?_; (repeat still_step); refine wpStill_nil ?_)
                      go_wp2_with fail
                      go_roundg (WL.length - (k + 1))
                      case measure => omega
                      case rel => exact ⟨k + 1, by omega, by rw [A3.out], by rw [E2.out]; simp, by simp, Lib.hid (by first | exact HB3.out.drew | exact bdrewN HB3.out _ | exact HB3.out)⟩
                    · rw [hb] at d4
                      have E2 := Lib.hid (E1.out _ hb)
                      clear E1
                      go_wp2_with fail
                      (refine region_still (by kernel_rfl) (by kernel_rfl) ?_; (repeat still_step); refine wpStill_nil ?_)
                      go_wp2_with fail
                      go_roundg (WL.length - (k + 1))
                      case measure => omega
                      case rel => exact ⟨k + 1, by omega, by rw [A3.out], by rw [E2.out]; simp, by simp, Lib.hid (by first | exact HB3.out.drew | exact bdrewN HB3.out _ | exact HB3.out)⟩
                  · have A3 := Lib.hid (A2.out hac hxa)
                    have n1 : (x == (a : Int)) = false := beq_false_of_ne hxa
                    clear A1 A2
                    cases hb : EN k
                    · rw [hb] at d4
                      have E2 := Lib.hid (E1.out _ hb)
                      clear E1
                      go_wp2_with fail
                      (refine region_still (by kernel_rfl) (by kernel_rfl) ?_; (repeat still_step); refine wpStill_nil ?_)
                      go_wp2_with fail
                      go_roundg (WL.length - (k + 1))
                      case measure => omega
                      case rel => exact ⟨k + 1, by omega, by rw [A3.out], by rw [E2.out]; simp, by simp, Lib.hid (by first | exact HB3.out.drew | exact bdrewN HB3.out _ | exact HB3.out)⟩
                    · rw [hb] at d4
                      have E2 := Lib.hid (E1.out _ hb)
                      clear E1
                      go_wp2_with fail
                      (refine region_still (by kernel_rfl) (by kernel_rfl) ?_; (repeat still_step); refine wpStill_nil ?_)
                      go_wp2_with fail
                      go_roundg (WL.length - (k + 1))
                      case measure => omega
                      case rel => exact ⟨k + 1, by omega, by rw [A3.out], by rw [E2.out]; simp, by simp, Lib.hid (by first | exact HB3.out.drew | exact bdrewN HB3.out _ | exact HB3.out)⟩
                · have A3 := Lib.hid (A1.out (.inl hac))
                  clear A1 A2
                  cases hb : EN k
                  · rw [hb] at d4
                    have E2 := Lib.hid (E1.out _ hb)
                    clear E1
                    go_wp2_with fail
                    (refine region_still (by kernel_rfl) (by kernel_rfl) ?_; (repeat still_step); refine wpStill_nil ?_)
                    go_wp2_with fail
                    go_roundg (WL.length - (k + 1))
                    case measure => omega
                    case rel => exact ⟨k + 1, by omega, by rw [A3.out], by rw [E2.out]; simp, by simp, Lib.hid (by first | exact HB3.out.drew | exact bdrewN HB3.out _ | exact HB3.out)⟩
                  · rw [hb] at d4
                    have E2 := Lib.hid (E1.out _ hb)
                    clear E1
                    go_wp2_with fail
                    (refine region_still (by kernel_rfl) (by kernel_rfl) ?_; (repeat still_step); refine wpStill_nil ?_)
                    go_wp2_with fail
                    go_roundg (WL.length - (k + 1))
                    case measure => omega
                    case rel => exact ⟨k + 1, by omega, by rw [A3.out], by rw [E2.out]; simp, by simp, Lib.hid (by first | exact HB3.out.drew | exact bdrewN HB3.out _ | exact HB3.out)⟩
              · have hkk : k = WL.length := by omega
                subst hkk
                have hmem := FWK.out (by first | rfl | trivial) a hla
                clear FIN HRW
                have hlen0 : ((onN EN WL.length : Int) == (WL.length : Int)) = false ∨ acK WL (a : Int) WL.length = true := by
                  rcases hmem with h | ⟨i, hi, h⟩
                  · exact .inr (acK_mem h)
                  · refine .inl ?_
                    have := onN_lt (p := EN) hi (by rw [HEN.out]; exact h)
                    exact beq_false_of_ne (by omega)
                clear HEN hmem
                generalize onN EN WL.length = on0 at *
                cases hac : acK WL (a : Int) WL.length
                · have n1 := hlen0.resolve_right (by rw [hac]; simp)
                  clear hlen0
                  go_wp2_with fail
                  go_roundg (A - (a + 1))
                  case measure => omega
                  case rel => exact ⟨a + 1, by omega, by simp, by first | exact HB3 | exact Lib.hid HB3.out.drew⟩
                · clear hlen0
                  go_wp2_with fail
                  go_roundg (A - (a + 1))
                  case measure => omega
                  case rel => exact ⟨a + 1, by omega, by simp, by first | exact HB3 | exact Lib.hid HB3.out.drew⟩
          · have haa : a = A := by omega
            subst haa
            go_wp2_with (go_at_call 67; refine (known19 _).mono ?_; rintro e w5 ⟨rfl, hb⟩; have S9 := Lib.hid (S7.out.more hb); clear hb)
            go_ret
            exact ⟨rfl, S9.out.below⟩
  · first | rw [if_pos rfl] at hm | rw [if_neg (by simp)] at hm
    subst hm
    go_enter Try.func18, Try.ntmps18
    go_wp2_with (first
      | (go_at_call 70; refine (HSP.out _ S3.out.below _ I3.out).mono ?_; rintro e w4 ⟨rv, rfl, hi, hb⟩; obtain ⟨ta2, tc2, rfl, htt⟩ := id hi; have HTT := Lib.hid htt; have HCC := Lib.hid (fun k hk => (by obtain ⟨b, o, e, q⟩ := HCC0.out k hk; exact ⟨b, o, e, bkeep hb q⟩ : ∃ b o, ra = some ⟨b, o, none⟩ ∧ w4.cell? ⟨b, o + k, none⟩ = some (.int .i64 (WL.getD k 0)))); have I4 := Lib.hid (I3.out.below hb); have S4 := Lib.hid (S3.out.more hb); clear c0 c1 c2 c3 c4; have c0 := cell_of_block S4.out.blk 0 _ rfl; have c1 := cell_of_block S4.out.blk 1 _ rfl; have c2 := cell_of_block S4.out.blk 2 _ rfl; have c3 := cell_of_block S4.out.blk 3 _ rfl; have c4 := cell_of_block S4.out.blk 4 _ rfl; clear hb hi htt HCC0)
      | (go_at_call 68; refine (HC.out _ S2.out.below _ I2.out).mono ?_; rintro e w3 ⟨rv, rfl, hi, hb⟩; obtain ⟨ra, rc, rfl, hrc, hrm, hcc⟩ := hi; have HCC0 := Lib.hid hcc; have I3 := Lib.hid (I2.out.below hb); have S3 := Lib.hid (S2.out.more hb); clear c0 c1 c2 c3 c4; have c0 := cell_of_block S3.out.blk 0 _ rfl; have c1 := cell_of_block S3.out.blk 1 _ rfl; have c2 := cell_of_block S3.out.blk 2 _ rfl; have c3 := cell_of_block S3.out.blk 3 _ rfl; have c4 := cell_of_block S3.out.blk 4 _ rfl; clear hb hcc)
      | (go_at_call 59; refine (HF.out _ S1.out.below).mono ?_; rintro e w2 ⟨rv, rfl, hi, hb⟩; obtain ⟨pa, pc, rfl, hpp⟩ := id hi; have HPP := Lib.hid hpp; have I2 := Lib.hid hi; have S2 := Lib.hid (S1.out.more hb); clear c0 c1 c2 c3 c4; have c0 := cell_of_block S2.out.blk 0 _ rfl; have c1 := cell_of_block S2.out.blk 1 _ rfl; have c2 := cell_of_block S2.out.blk 2 _ rfl; have c3 := cell_of_block S2.out.blk 3 _ rfl; have c4 := cell_of_block S2.out.blk 4 _ rfl; clear hb hi hpp)
      | (go_at_call 66; refine (HON.out _ S0.out.below).mono ?_; rintro e w1 ⟨rfl, hb⟩; have S1 := Lib.hid (S0.out.more hb); have c0 := cell_of_block S1.out.blk 0 _ rfl; have c1 := cell_of_block S1.out.blk 1 _ rfl; have c2 := cell_of_block S1.out.blk 2 _ rfl; have c3 := cell_of_block S1.out.blk 3 _ rfl; have c4 := cell_of_block S1.out.blk 4 _ rfl; clear hb))
    obtain ⟨pa3, pc3, e3, hpp⟩ := id I4.out
    cases e3
    obtain ⟨b1, o1, rfl, d1⟩ := hpp 0 (by omega)
    obtain ⟨b2, o2, rfl, d2⟩ := HTT.out 0 (by omega)
    obtain ⟨b2', o2', e2, d3⟩ := HTT.out WL.length (by omega)
    cases e2
    rw [hf0] at d2
    rw [hfl] at d3
    clear hpp
    rw [Nat.add_zero] at d1 d2
    generalize PT.getD 0 0 = p0 at *
    have y3 : (p0 != p0) = false := by simp
    have HP0 := Lib.hid d1
    go_quiet (fail)
    clear d1 d2 d3
    go_wp2_with fail
    go_loopg [10] WL.length (fun fu c wr => ∃ k : Nat, k + fu = WL.length ∧ c = .int .i64 k ∧ Hid (Below w4.heap.size w4 wr))
    case atStart => exact ⟨0, by omega, rfl, Lib.hid (by first | exact (Below.refl _ _).drew | exact bdrewN (Below.refl _ _) _ | exact Below.refl _ _)⟩
    case round =>
      obtain ⟨k, hk, rfl, HBR⟩ := hrel
      by_cases hlt : k < WL.length
      · have z1 : (k : Int) < (WL.length : Int) := by omega
        have hkr : k < rc := by omega
        have z5 : (k : Int) < (WL.length : Int) + 1 := by omega
        have z6 : (k : Int) + 1 ≤ (rc : Int) := by omega
        have z7 : k + 1 ≤ rc := by omega
        have z8 : ¬ rc = k := by omega
        have z9 : 0 ≤ (k : Int) + 1 := by omega
        have hwk : IntKind.i64.wrap ((k : Int) + 1) = (k : Int) + 1 := IntWalk.i64_in _ (by omega)
        obtain ⟨b3, o3, rfl, d1⟩ := HCC.out k hlt
        obtain ⟨b2', o2', e2, d2⟩ := HTT.out k (by omega)
        cases e2
        obtain ⟨b2', o2', e2, d3⟩ := HTT.out (k + 1) (by omega)
        cases e2
        have HI1 := Lib.hid (ints_one (cc := rc - k) d1)
        have d2 := bkeep HBR.out d2
        have d3 := bkeep HBR.out d3
        have S5 := Lib.hid (S4.out.more HBR.out)
        clear c0 c1 c2 c3 c4
        have c0 := cell_of_block S5.out.blk 0 _ rfl
        have c1 := cell_of_block S5.out.blk 1 _ rfl
        have c2 := cell_of_block S5.out.blk 2 _ rfl
        have c3 := cell_of_block S5.out.blk 3 _ rfl
        have c4 := cell_of_block S5.out.blk 4 _ rfl
        have HFK := Lib.hid (HFF.out k hlt)
        have HCF := Lib.hid (fun (w' : World) (hb : Below wr.heap.size wr w') => (by have := HFO.out w' (S5.out.more hb).below _ (WT.getD k 0) [WL.getD k 0] (HI1.out.below (HBR.out.trans (hb.mono HBR.out.size))) (by simp); rw [HFK.out] at this; exact this : Calls Try.prog 72 #[.agg #[.slice sa g.S.length sc, .slice aa g.A.length ac, .slice ta g.T.length tc], .int .i64 (WT.getD k 0), .slice (some ⟨b3, o3 + k, none⟩) 1 (rc - k)] w' fun e w2 => e = .returned (.int .i64 (WT.getD (k + 1) 0)) ∧ Below w'.heap.size w' w2))
        clear d1
        generalize WT.getD k 0 = x at d2 HCF
        generalize WT.getD (k + 1) 0 = y at d3 HCF
        clear HFK HI1
        go_wp2_with fail
        refine region_rel (fun q => match q with | 99 => u99 | 100 => u100 | 101 => u101 | 102 => u102 | 103 => u103 | 104 => u104 | 105 => u105 | 106 => u106 | 107 => u107 | 108 => u108 | 109 => u109 | 110 => u110 | 111 => u111 | 112 => u112 | 113 => u113 | 114 => u114 | 115 => u115 | 116 => u116 | _ => undef)
          (fun f => { tmps := #[.agg #[.slice sa g.S.length sc, .slice aa g.A.length ac, .slice ta g.T.length tc, .slice ua en.length uc, .int .i64 (A : Nat)], .bool true, .pointer (some ⟨w.heap.size, 0, none⟩), undef, u4, .int .i64 2, .slice (some ⟨b1, o1, none⟩) PT.length pc, .slice (some ⟨b3, o3, none⟩) WL.length rc, .bool true, .slice (some ⟨b2, o2, none⟩) (WL.length + 1) tc2, .int .i64 (k : Nat), undef, undef, undef, undef, .agg #[.slice sa g.S.length sc, .slice aa g.A.length ac, .slice ta g.T.length tc, .slice ua en.length uc, .int .i64 (A : Nat)], .bool true, .bool false, undef, .bool true, .pointer (some ⟨w.heap.size, 0, none⟩), .agg #[.slice sa g.S.length sc, .slice aa g.A.length ac, .slice ta g.T.length tc], .pointer (some ⟨w.heap.size, 3, none⟩), .slice ua en.length uc, .pointer (some ⟨w.heap.size, 4, none⟩), .int .i64 (A : Nat), .int .i64 2, .slice (some ⟨b1, o1, none⟩) PT.length pc, .tuple #[.slice (some ⟨b3, o3, none⟩) WL.length rc, .bool true], .pointer (some ⟨w.heap.size, 0, none⟩), .agg #[.slice sa g.S.length sc, .slice aa g.A.length ac, .slice ta g.T.length tc], .pointer (some ⟨w.heap.size, 3, none⟩), .slice ua en.length uc, .pointer (some ⟨w.heap.size, 4, none⟩), .int .i64 (A : Nat), .int .i64 2, .slice (some ⟨b1, o1, none⟩) PT.length pc, .tuple #[.slice (some ⟨b3, o3, none⟩) WL.length rc, .bool true], .slice (some ⟨b3, o3, none⟩) WL.length rc, .bool true, .bool true, .slice (some ⟨b1, o1, none⟩) PT.length pc, .int .i64 (PT.length : Nat), .bool true, .bool false, .bool true, .bool false, undef, undef, undef, undef, undef, undef, .pointer (some ⟨w.heap.size, 0, none⟩), .agg #[.slice sa g.S.length sc, .slice aa g.A.length ac, .slice ta g.T.length tc], .pointer (some ⟨w.heap.size, 3, none⟩), .slice ua en.length uc, .pointer (some ⟨w.heap.size, 4, none⟩), .int .i64 (A : Nat), .int .i64 2, .slice (some ⟨b1, o1, none⟩) PT.length pc, .slice (some ⟨b2, o2, none⟩) (WL.length + 1) tc2, .slice (some ⟨b3, o3, none⟩) WL.length rc, .int .i64 (WL.length : Nat), .bool false, .bool false, .slice (some ⟨b2, o2, none⟩) (WL.length + 1) tc2, .int IntKind.i64 (↑WL.length + 1), .slice (some ⟨b3, o3, none⟩) WL.length rc, .int .i64 (WL.length : Nat), .int IntKind.i64 (↑WL.length + 1), .bool false, .bool false, .bool false, .slice (some ⟨b2, o2, none⟩) (WL.length + 1) tc2, .pointer (some ⟨b2, o2, none⟩), .int .i64 p0, .slice (some ⟨b1, o1, none⟩) PT.length pc, .pointer (some ⟨b1, o1, none⟩), .int .i64 p0, .bool false, .bool false, .bool false, .slice (some ⟨b2, o2, none⟩) (WL.length + 1) tc2, .slice (some ⟨b3, o3, none⟩) WL.length rc, .int .i64 (WL.length : Nat), .pointer (some ⟨b2, o2 + WL.length, none⟩), .int .i64 p0, .slice (some ⟨b1, o1, none⟩) PT.length pc, .pointer (some ⟨b1, o1, none⟩), .int .i64 p0, .bool false, .bool false, .int .i64 (k : Nat), .slice (some ⟨b3, o3, none⟩) WL.length rc, .int .i64 (WL.length : Nat), .bool true, u97, u98, f 99, f 100, f 101, f 102, f 103, f 104, f 105, f 106, f 107, f 108, f 109, f 110, f 111, f 112, f 113, f 114, f 115, f 116, undef, undef, undef, undef, undef, undef, undef, undef, undef, undef, undef, undef, undef, undef, undef, undef, undef, undef, undef, undef, undef, undef, undef, undef, undef, undef, undef, undef, undef, undef, undef, undef, undef, undef, undef, undef, undef, undef, undef, undef, undef, undef, undef, undef, undef, undef, undef, undef, undef, undef], defers := [] }) (fun j => j + 99)
          (relL [.eq (.pointer (some ⟨w.heap.size, 0, none⟩)), .eq (.agg #[.slice sa g.S.length sc, .slice aa g.A.length ac, .slice ta g.T.length tc]), .eq (.slice (some ⟨b2, o2, none⟩) (WL.length + 1) tc2), .eq (.int .i64 (k : Nat)), .eq (.pointer (some ⟨b2, o2 + k, none⟩)), .eq (.int .i64 x), .eq (.slice (some ⟨b3, o3, none⟩) WL.length rc), .eq (.int .i64 (k : Nat)), .eq (.int .i64 (k : Nat)), .eq (.int .i64 ((k : Int) + 1)), .eq (.slice (some ⟨b3, o3 + k, none⟩) 1 (rc - k)), .eq (.int .i64 y), .eq (.slice (some ⟨b2, o2, none⟩) (WL.length + 1) tc2), .eq (.int .i64 (k : Nat)), .eq (.int .i64 ((k : Int) + 1)), .eq (.pointer (some ⟨b2, o2 + (k + 1), none⟩)), .eq (.int .i64 y), .eq (.bool false)])
          rfl (by kernel_rfl) (fun i u w w' hb h => RK.mono _ hb h) (by kernel_rfl) (by kernel_rfl) ?_ ?_ ?_
        · intro j hj f v
          rcases j with _ | _ | _ | _ | _ | _ | _ | _ | _ | _ | _ | _ | _ | _ | _ | _ | _ | _ | j
          all_goals first | rfl | (simp at hj; omega)
        · refine ⟨?_, ?_, ?_, ?_, ?_, ?_, ?_, ?_, ?_, ?_, ?_, ?_, ?_, ?_, ?_, ?_, ?_, ?_, trivial⟩
          · intro f w' hb hd K hK
            dsimp only
            go_simp
            exact hK (.pointer (some ⟨w.heap.size, 0, none⟩)) w' (Below.refl _ _) rfl
          · intro f w' hb hd K hK
            have h0 : f 99 = (.pointer (some ⟨w.heap.size, 0, none⟩)) := hd 0 (by kernel_rfl)
            have e0 := bkeep hb c0
            have e1 := bkeep hb c1
            have e2 := bkeep hb c2
            dsimp only
            go_simp
            have q := hK (.agg #[.slice sa g.S.length sc, .slice aa g.A.length ac, .slice ta g.T.length tc]) w' (Below.refl _ _) rfl
            simp only [h0] at q
            exact q
          · intro f w' hb hd K hK
            dsimp only
            go_simp
            exact hK (.slice (some ⟨b2, o2, none⟩) (WL.length + 1) tc2) w' (Below.refl _ _) rfl
          · intro f w' hb hd K hK
            dsimp only
            go_simp
            exact hK (.int .i64 (k : Nat)) w' (Below.refl _ _) rfl
          · intro f w' hb hd K hK
            have h0 : f 101 = (.slice (some ⟨b2, o2, none⟩) (WL.length + 1) tc2) := hd 2 (by kernel_rfl)
            have h1 : f 102 = (.int .i64 (k : Nat)) := hd 3 (by kernel_rfl)
            dsimp only
            go_simp
            have q := hK (.pointer (some ⟨b2, o2 + k, none⟩)) w' (Below.refl _ _) rfl
            simp only [h0, h1] at q
            exact q
          · intro f w' hb hd K hK
            have h0 : f 103 = (.pointer (some ⟨b2, o2 + k, none⟩)) := hd 4 (by kernel_rfl)
            have e0 := bkeep hb d2
            dsimp only
            go_simp
            have q := hK (.int .i64 x) w' (Below.refl _ _) rfl
            simp only [h0] at q
            exact q
          · intro f w' hb hd K hK
            dsimp only
            go_simp
            exact hK (.slice (some ⟨b3, o3, none⟩) WL.length rc) w' (Below.refl _ _) rfl
          · intro f w' hb hd K hK
            dsimp only
            go_simp
            exact hK (.int .i64 (k : Nat)) w' (Below.refl _ _) rfl
          · intro f w' hb hd K hK
            dsimp only
            go_simp
            exact hK (.int .i64 (k : Nat)) w' (Below.refl _ _) rfl
          · intro f w' hb hd K hK
            have h0 : f 107 = (.int .i64 (k : Nat)) := hd 8 (by kernel_rfl)
            dsimp only
            go_simp
            have q := hK (.int .i64 ((k : Int) + 1)) w' (Below.refl _ _) rfl
            simp only [h0] at q
            exact q
          · intro f w' hb hd K hK
            have h0 : f 105 = (.slice (some ⟨b3, o3, none⟩) WL.length rc) := hd 6 (by kernel_rfl)
            have h1 : f 106 = (.int .i64 (k : Nat)) := hd 7 (by kernel_rfl)
            have h2 : f 108 = (.int .i64 ((k : Int) + 1)) := hd 9 (by kernel_rfl)
            dsimp only
            go_simp
            have q := hK (.slice (some ⟨b3, o3 + k, none⟩) 1 (rc - k)) w' (Below.refl _ _) rfl
            simp only [h0, h1, h2] at q
            exact q
          · intro f w' hb hd K hK
            have h0 : f 100 = (.agg #[.slice sa g.S.length sc, .slice aa g.A.length ac, .slice ta g.T.length tc]) := hd 1 (by kernel_rfl)
            have h1 : f 104 = (.int .i64 x) := hd 5 (by kernel_rfl)
            have h2 : f 109 = (.slice (some ⟨b3, o3 + k, none⟩) 1 (rc - k)) := hd 10 (by kernel_rfl)
            have HO := Lib.hid (HCF.out w' ((Below.refl _ wr).drew.trans hb))
            dsimp only
            go_simp
            go_wp2_with (go_at_call 72; refine HO.out.mono ?_; rintro e w2 ⟨rfl, hb2⟩)
            have q := hK (.int .i64 y) w2 hb2 rfl
            simp only [h0, h1, h2] at q
            exact q
          · intro f w' hb hd K hK
            dsimp only
            go_simp
            exact hK (.slice (some ⟨b2, o2, none⟩) (WL.length + 1) tc2) w' (Below.refl _ _) rfl
          · intro f w' hb hd K hK
            dsimp only
            go_simp
            exact hK (.int .i64 (k : Nat)) w' (Below.refl _ _) rfl
          · intro f w' hb hd K hK
            have h0 : f 112 = (.int .i64 (k : Nat)) := hd 13 (by kernel_rfl)
            dsimp only
            go_simp
            have q := hK (.int .i64 ((k : Int) + 1)) w' (Below.refl _ _) rfl
            simp only [h0] at q
            exact q
          · intro f w' hb hd K hK
            have h0 : f 111 = (.slice (some ⟨b2, o2, none⟩) (WL.length + 1) tc2) := hd 12 (by kernel_rfl)
            have h1 : f 113 = (.int .i64 ((k : Int) + 1)) := hd 14 (by kernel_rfl)
            dsimp only
            go_simp
            have q := hK (.pointer (some ⟨b2, o2 + (k + 1), none⟩)) w' (Below.refl _ _) rfl
            simp only [h0, h1] at q
            exact q
          · intro f w' hb hd K hK
            have h0 : f 114 = (.pointer (some ⟨b2, o2 + (k + 1), none⟩)) := hd 15 (by kernel_rfl)
            have e0 := bkeep hb d3
            dsimp only
            go_simp
            have q := hK (.int .i64 y) w' (Below.refl _ _) rfl
            simp only [h0] at q
            exact q
          · intro f w' hb hd K hK
            have h0 : f 110 = (.int .i64 y) := hd 11 (by kernel_rfl)
            have h1 : f 115 = (.int .i64 y) := hd 16 (by kernel_rfl)
            dsimp only
            go_simp
            have q := hK (.bool false) w' (Below.refl _ _) rfl
            simp only [h0, h1] at q
            exact q
        · intro f w' hb hr
          have h116 : f 116 = .bool false := hr 17 (by decide)
          have HB6 := Lib.hid (HBR.out.trans (hb.mono HBR.out.size))
          clear hr hb
          dsimp only
          rw [h116]
          generalize f 99 = x99
          generalize f 100 = x100
          generalize f 101 = x101
          generalize f 102 = x102
          generalize f 103 = x103
          generalize f 104 = x104
          generalize f 105 = x105
          generalize f 106 = x106
          generalize f 107 = x107
          generalize f 108 = x108
          generalize f 109 = x109
          generalize f 110 = x110
          generalize f 111 = x111
          generalize f 112 = x112
          generalize f 113 = x113
          generalize f 114 = x114
          generalize f 115 = x115
          go_wp2_with fail
          go_roundg (WL.length - (k + 1))
          case measure => omega
          case rel => exact ⟨k + 1, by omega, by simp, by first | exact HB6 | exact Lib.hid HB6.out.drew⟩
      · have hkk : k = WL.length := by omega
        subst hkk
        obtain ⟨wq, hwq⟩ : ∃ x, x = wr := ⟨_, rfl⟩
        subst hwq
        have S6 := Lib.hid (S4.out.more HBR.out)
        have HCC6 := Lib.hid (fun k hk => (by obtain ⟨b, o, e, q⟩ := HCC.out k hk; exact ⟨b, o, e, bkeep HBR.out q⟩ : ∃ b o, ra = some ⟨b, o, none⟩ ∧ wq.cell? ⟨b, o + k, none⟩ = some (.int .i64 (WL.getD k 0))))
        have HTT6 := Lib.hid (fun k (hk : k < WT.length) => (by obtain ⟨b, o, e, q⟩ := HTT.out k hk; exact ⟨b, o, e, bkeep HBR.out q⟩ : ∃ b o, some (⟨b2, o2, none⟩ : Addr) = some ⟨b, o, none⟩ ∧ wq.cell? ⟨b, o + k, none⟩ = some (.int .i64 (WT.getD k 0))))
        have HUR6 := Lib.hid (fun k (hk : k < en.length) => (by obtain ⟨b, o, u, e, q, q2⟩ := HUR.out k hk; exact ⟨b, o, u, e, bkeep S6.out.below q, q2.below S6.out.below⟩ : ∃ b o u, ua = some ⟨b, o, none⟩ ∧ wq.cell? ⟨b, o + k, none⟩ = some u ∧ BoolsAt wq u (en.getD k [])))
        clear HCC HTT HUR HBR
        go_wp2_with fail
        go_loopg [11] A (fun fu c wr2 => ∃ a : Nat, a + fu = A ∧ c = .int .i64 a ∧ Hid (Below wq.heap.size wq wr2))
        case atStart => exact ⟨0, by omega, rfl, Lib.hid (Below.refl _ _)⟩
        case round =>
          obtain ⟨a, ha, rfl, HB2⟩ := hrel
          have S7 := Lib.hid (S6.out.more HB2.out)
          have c4 := cell_of_block S7.out.blk 4 _ rfl
          by_cases hla : a < A
          · have z2 : (a : Int) < (A : Int) := by omega
            obtain ⟨EN, hEN⟩ : ∃ EN : Nat → Bool, ∀ i, EN i = (en.getD (WT.getD i 0).toNat []).getD a false := ⟨fun i => (en.getD (WT.getD i 0).toNat []).getD a false, fun _ => rfl⟩
            have HEN := Lib.hid hEN
            clear hEN
            go_wp2_with fail
            clear c4
            go_loopg [12, 13, 14] WL.length (fun fu ac on c wr3 => ∃ k : Nat, k + fu = WL.length ∧ ac = .bool (acK WL a k) ∧ on = .int .i64 (onN EN k : Nat) ∧ c = .int .i64 k ∧ Hid (Below wq.heap.size wq wr3))
            case atStart => exact ⟨0, by omega, by rw [acK_zero], rfl, rfl, HB2⟩
            case round =>
              clear HB2
              obtain ⟨k, hk, rfl, rfl, rfl, HB3⟩ := hrel
              by_cases hlt : k < WL.length
              · have z1 : (k : Int) < (WL.length : Int) := by omega
                have z3 : (k : Int) < (WL.length : Int) + 1 := by omega
                obtain ⟨b3, o3, rfl, d1⟩ := HCC6.out k hlt
                obtain ⟨b2', o2', e2, d2⟩ := HTT6.out k (by omega)
                cases e2
                obtain ⟨y0', y1'⟩ := FIN.out k (by omega)
                obtain ⟨q, hq⟩ : ∃ q : Nat, WT.getD k 0 = (q : Int) := ⟨(WT.getD k 0).toNat, by omega⟩
                have hqn : q < en.length := by omega
                have z4 : (q : Int) < (en.length : Int) := by omega
                obtain ⟨b4, o4, u4', rfl, d3, hbr⟩ := HUR6.out q hqn
                obtain ⟨r4, rc4, rfl, hbc⟩ := hbr
                have hrl := HRW.out q hqn
                rw [hrl] at d3 hbc
                obtain ⟨b5, o5, rfl, d4⟩ := hbc a hla
                have hen := HEN.out k
                rw [hq, Int.toNat_natCast] at hen
                rw [← hen] at d4
                rw [hq] at d2
                have d1 := bkeep HB3.out d1
                have d2 := bkeep HB3.out d2
                have d3 := bkeep HB3.out d3
                have d4 := bkeep HB3.out d4
                have S8 := Lib.hid (S6.out.more HB3.out)
                have c3 := cell_of_block S8.out.blk 3 _ rfl
                have hon := onN_le EN k
                have E1 := Lib.hid (show ∀ b, EN k = b → onN EN (k + 1) = onN EN k + if b = true then 1 else 0 from fun b hb => by rw [onN, hb])
                have A1 := Lib.hid (acK_yes (a := (a : Int)) hlt)
                have A2 := Lib.hid (acK_no (a := (a : Int)) hlt)
                clear hen hbc hrl hq y0' y1' FIN HRW HEN
                generalize WL.getD k 0 = x at *
                generalize onN EN k = on0 at *
                cases hac : acK WL (a : Int) k
                · by_cases hxa : x = (a : Int)
                  · have A3 := Lib.hid (A1.out (.inr hxa))
                    have n1 : (x == (a : Int)) = true := by simp [hxa]
                    clear A1 A2
                    cases hb : EN k
                    · rw [hb] at d4
                      have E2 := Lib.hid (E1.out _ hb)
                      clear E1
                      go_wp2_with fail
                      (refine region_still (by kernel_rfl) (by kernel_rfl) ?_; (repeat still_step); refine wpStill_nil ?_)
                      go_wp2_with fail
                      go_roundg (WL.length - (k + 1))
                      case measure => omega
                      case rel => exact ⟨k + 1, by omega, by rw [A3.out], by rw [E2.out]; simp, by simp, Lib.hid (by first | exact HB3.out.drew | exact bdrewN HB3.out _ | exact HB3.out)⟩
                    · rw [hb] at d4
                      have E2 := Lib.hid (E1.out _ hb)
                      clear E1
                      go_wp2_with fail
                      (refine region_still (by kernel_rfl) (by kernel_rfl) ?_; (repeat still_step); refine wpStill_nil ?_)
                      go_wp2_with fail
                      go_roundg (WL.length - (k + 1))
                      case measure => omega
                      case rel => exact ⟨k + 1, by omega, by rw [A3.out], by rw [E2.out]; simp, by simp, Lib.hid (by first | exact HB3.out.drew | exact bdrewN HB3.out _ | exact HB3.out)⟩
                  · have A3 := Lib.hid (A2.out hac hxa)
                    have n1 : (x == (a : Int)) = false := beq_false_of_ne hxa
                    clear A1 A2
                    cases hb : EN k
                    · rw [hb] at d4
                      have E2 := Lib.hid (E1.out _ hb)
                      clear E1
                      go_wp2_with fail
                      (refine region_still (by kernel_rfl) (by kernel_rfl) ?_; (repeat still_step); refine wpStill_nil ?_)
                      go_wp2_with fail
                      go_roundg (WL.length - (k + 1))
                      case measure => omega
                      case rel => exact ⟨k + 1, by omega, by rw [A3.out], by rw [E2.out]; simp, by simp, Lib.hid (by first | exact HB3.out.drew | exact bdrewN HB3.out _ | exact HB3.out)⟩
                    · rw [hb] at d4
                      have E2 := Lib.hid (E1.out _ hb)
                      clear E1
                      go_wp2_with fail
                      (refine region_still (by kernel_rfl) (by kernel_rfl) ?_; (repeat still_step); refine wpStill_nil ?_)
                      go_wp2_with fail
                      go_roundg (WL.length - (k + 1))
                      case measure => omega
                      case rel => exact ⟨k + 1, by omega, by rw [A3.out], by rw [E2.out]; simp, by simp, Lib.hid (by first | exact HB3.out.drew | exact bdrewN HB3.out _ | exact HB3.out)⟩
                · have A3 := Lib.hid (A1.out (.inl hac))
                  clear A1 A2
                  cases hb : EN k
                  · rw [hb] at d4
                    have E2 := Lib.hid (E1.out _ hb)
                    clear E1
                    go_wp2_with fail
                    (refine region_still (by kernel_rfl) (by kernel_rfl) ?_; (repeat still_step); refine wpStill_nil ?_)
                    go_wp2_with fail
                    go_roundg (WL.length - (k + 1))
                    case measure => omega
                    case rel => exact ⟨k + 1, by omega, by rw [A3.out], by rw [E2.out]; simp, by simp, Lib.hid (by first | exact HB3.out.drew | exact bdrewN HB3.out _ | exact HB3.out)⟩
                  · rw [hb] at d4
                    have E2 := Lib.hid (E1.out _ hb)
                    clear E1
                    go_wp2_with fail
                    (refine region_still (by kernel_rfl) (by kernel_rfl) ?_; (repeat still_step); refine wpStill_nil ?_)
                    go_wp2_with fail
                    go_roundg (WL.length - (k + 1))
                    case measure => omega
                    case rel => exact ⟨k + 1, by omega, by rw [A3.out], by rw [E2.out]; simp, by simp, Lib.hid (by first | exact HB3.out.drew | exact bdrewN HB3.out _ | exact HB3.out)⟩
              · have hkk : k = WL.length := by omega
                subst hkk
                have hmem := FST.out (by first | rfl | trivial) a hla
                clear FIN HRW
                have hlen0 : onN EN WL.length = 0 ∨ acK WL (a : Int) WL.length = true := by
                  rcases hmem with h | h
                  · exact .inr (acK_mem h)
                  · exact .inl (onN_none (p := EN) (fun i hi => by rw [HEN.out]; exact h i hi))
                clear HEN hmem
                generalize onN EN WL.length = on0 at *
                cases hac : acK WL (a : Int) WL.length
                · have n0 := hlen0.resolve_right (by rw [hac]; simp)
                  subst n0
                  have n1 : (((0 : Nat) : Int) == (WL.length : Int)) = false := beq_false_of_ne (by omega)
                  have n2 : ((0 : Int) == (WL.length : Int)) = false := beq_false_of_ne (by omega)
                  clear hlen0
                  go_wp2_with fail
                  go_roundg (A - (a + 1))
                  case measure => omega
                  case rel => exact ⟨a + 1, by omega, by simp, by first | exact HB3 | exact Lib.hid HB3.out.drew⟩
                · clear hlen0
                  go_wp2_with fail
                  go_roundg (A - (a + 1))
                  case measure => omega
                  case rel => exact ⟨a + 1, by omega, by simp, by first | exact HB3 | exact Lib.hid HB3.out.drew⟩
          · have haa : a = A := by omega
            subst haa
            go_wp2_with (go_at_call 67; refine (known19 _).mono ?_; rintro e w5 ⟨rfl, hb⟩; have S9 := Lib.hid (S7.out.more hb); clear hb)
            go_ret
            exact ⟨rfl, S9.out.below⟩
end Go.Proofs.Ytnlaonppgebpoaa
