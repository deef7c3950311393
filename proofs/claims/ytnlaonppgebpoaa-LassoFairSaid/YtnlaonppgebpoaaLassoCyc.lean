/-
  lasso's Cycle and Stops.
-/
import Derived.Test.YtnlaonppgebpoaaWalkYes
namespace Go.Proofs.Ytnlaonppgebpoaa
open Go.RowKit

/-- the walk, where the part is good -/
noncomputable def walkG (g : Gr) (en : List (List Bool)) (ag mode : Int) (part : List Int) : WS := if goodB g en ag mode part = true then walkL g en mode (maskL (nodesN g) part) (nodesN g) (leastL part) ag.toNat else (0, [], [])
/-- what the walk asks of a good part -/
structure GdOk (g : Gr) (en : List (List Bool)) (ag mode : Int) (part : List Int) : Prop where
  ok : WkOk g en mode (maskL (nodesN g) part) (nodesN g) (leastL part) ag.toNat
  home : inB (maskL (nodesN g) part) (leastL part) = true ∧ 0 ≤ leastL part
  ne : 0 < part.length

set_option maxRecDepth 100000 in
set_option maxHeartbeats 16000000 in
theorem walk_no (v u pv : Value) (g : Gr) (en : List (List Bool)) (ag mode : Int) (part : List Int) (w : World) (h : GraphAt w v g) (hu : BRowsAt w u en) (hp : IntsAt w pv part) (hl : part.length ≤ 1000000) (hn : nodesN g ≤ 100000) (hgood : goodB g en ag mode part = false) :
    Calls Try.prog 100 #[v, u, .int .i64 ag, .int .i64 mode, pv] w fun e w' => e = .returned (.tuple #[.pointer none, .bool false]) ∧ Below w.heap.size w w' := by
  obtain ⟨sa, aa, ta, sc, ac, tc, rfl, -⟩ := h.var
  have HU := Lib.hid hu
  have HPA := Lib.hid hp
  obtain ⟨ua, uc, rfl, -⟩ := hu
  obtain ⟨pa, pc, rfl, -⟩ := hp
  have hb := (balloc w (.cells #[.slice sa g.S.length sc, .slice aa g.A.length ac, .slice ta g.T.length tc] 26)).trans ((balloc (w.alloc (.cells #[.slice sa g.S.length sc, .slice aa g.A.length ac, .slice ta g.T.length tc] 26)) (.cells #[.slice ua en.length uc] 53)).mono (balloc w _).size)
  have B0 := Lib.hid hb
  have HG := Lib.hid (fun (w' : World) (hb : Below w.heap.size w w') => (by have := good_ok _ _ _ g en ag mode part w' (h.below hb) (HU.out.below hb) (HPA.out.below hb) hl hn; rwa [hgood] at this : Calls Try.prog 61 #[.agg #[.slice sa g.S.length sc, .slice aa g.A.length ac, .slice ta g.T.length tc], .slice ua en.length uc, .int .i64 ag, .int .i64 mode, .slice pa part.length pc] w' fun e w2 => e = .returned (.bool false) ∧ Below w'.heap.size w' w2))
  clear h hb HU HPA hgood
  go_enter Try.func100, Try.ntmps100
  go_wp2_with (go_at_call 61; refine (HG.out _ B0.out).mono ?_; rintro e w2 ⟨rfl, hb2⟩; have B1 := Lib.hid (B0.out.trans (hb2.mono B0.out.size)); clear hb2)
  refine bodyPost_ret (v := .tuple #[.pointer none, .bool false]) (by simp [results, Try.results100, go_sem]) rfl ?_
  exact ⟨rfl, B1.out⟩
theorem goodB_nat {g : Gr} {en : List (List Bool)} {ag mode : Int} {part : List Int} (h : goodB g en ag mode part = true) : ag = (ag.toNat : Int) := by
  have := (goodB_iff.1 h).1.h0
  omega

set_option maxRecDepth 100000 in
set_option maxHeartbeats 16000000 in
theorem lcycle_ok (v u pv : Value) (g : Gr) (en : List (List Bool)) (ag mode : Int) (part : List Int) (w : World) (h : GraphAt w v g) (hu : BRowsAt w u en) (hp : IntsAt w pv part) (hl : part.length ≤ 1000000) (hn : nodesN g ≤ 100000) (hW : goodB g en ag mode part = true → GdOk g en ag mode part) :
    Calls Try.prog 68 #[v, u, .int .i64 ag, .int .i64 mode, pv] w fun e w' => ∃ rv, e = .returned (.tuple #[rv, .bool (goodB g en ag mode part)]) ∧ IntsAt w' rv (walkG g en ag mode part).2.1 ∧ Below w.heap.size w w' := by
  obtain ⟨sa, aa, ta, sc, ac, tc, rfl, -⟩ := h.var
  have hb := balloc w (.cells #[.slice sa g.S.length sc, .slice aa g.A.length ac, .slice ta g.T.length tc] 26)
  have B0 := Lib.hid hb
  have HB := Lib.hid (h.below hb)
  have HUB := Lib.hid (hu.below hb)
  have HPB := Lib.hid (hp.below hb)
  obtain ⟨ua, uc, rfl, -⟩ := hu
  obtain ⟨pa, pc, rfl, -⟩ := hp
  unfold walkG
  cases hgood : goodB g en ag mode part
  · have HC := Lib.hid (walk_no _ _ _ g en ag mode part _ HB.out HUB.out HPB.out hl hn hgood)
    clear h hb hW hgood HB HUB HPB
    go_enter Try.func68, Try.ntmps68
    go_wp2_with (go_at_call 100; refine HC.out.mono ?_; rintro e w2 ⟨rfl, hb2⟩; have B1 := Lib.hid (B0.out.trans (hb2.mono B0.out.size)); clear hb2)
    refine bodyPost_ret (v := .tuple #[.slice none 0 0, .bool false]) (by simp [results, Try.results68, go_sem]) rfl ?_
    exact ⟨_, rfl, intsAt_nil _, B1.out⟩
  · have hag := goodB_nat hgood
    have hw := hW hgood
    rw [hag] at hgood
    have HC := Lib.hid (walk_yes _ _ _ g en ag.toNat mode part _ HB.out HUB.out HPB.out hl hn hw.ne hgood hw.ok hw.home)
    rw [← hag] at HC
    rw [if_pos rfl]
    clear h hb hW hgood HB HUB HPB hw hag
    generalize walkL g en mode (maskL (nodesN g) part) (nodesN g) (leastL part) ag.toNat = WL at *
    generalize maskL (nodesN g) part = inl at *
    go_enter Try.func68, Try.ntmps68
    go_wp2_with (go_at_call 100; refine HC.out.mono ?_; rintro e w2 ⟨wb, ib, gS, gA, gT, wv, sv, rfl, hM⟩; have HM := Lib.hid hM; have c3 := cell_of_block hM.hs 5 _ rfl; clear hM)
    obtain ⟨wa, wc, rfl⟩ := own_var HM.out.rw
    refine bodyPost_ret (v := .tuple #[.slice wa WL.2.1.length wc, .bool true]) (by simp [results, Try.results68, go_sem]) rfl ?_
    exact ⟨_, rfl, own_ints HM.out.rw, B0.out.trans (HM.out.below.mono B0.out.size)⟩

set_option maxRecDepth 100000 in
set_option maxHeartbeats 16000000 in
theorem lstops_ok (v u pv : Value) (g : Gr) (en : List (List Bool)) (ag mode : Int) (part : List Int) (w : World) (h : GraphAt w v g) (hu : BRowsAt w u en) (hp : IntsAt w pv part) (hl : part.length ≤ 1000000) (hn : nodesN g ≤ 100000) (hW : goodB g en ag mode part = true → GdOk g en ag mode part) :
    Calls Try.prog 70 #[v, u, .int .i64 ag, .int .i64 mode, pv] w (IntsBack w (walkG g en ag mode part).2.2) := by
  obtain ⟨sa, aa, ta, sc, ac, tc, rfl, -⟩ := h.var
  have hb := balloc w (.cells #[.slice sa g.S.length sc, .slice aa g.A.length ac, .slice ta g.T.length tc] 26)
  have B0 := Lib.hid hb
  have HB := Lib.hid (h.below hb)
  have HUB := Lib.hid (hu.below hb)
  have HPB := Lib.hid (hp.below hb)
  obtain ⟨ua, uc, rfl, -⟩ := hu
  obtain ⟨pa, pc, rfl, -⟩ := hp
  unfold walkG
  cases hgood : goodB g en ag mode part
  · have HC := Lib.hid (walk_no _ _ _ g en ag mode part _ HB.out HUB.out HPB.out hl hn hgood)
    clear h hb hW hgood HB HUB HPB
    go_enter Try.func70, Try.ntmps70
    go_wp2_with (go_at_call 100; refine HC.out.mono ?_; rintro e w2 ⟨rfl, hb2⟩; have B1 := Lib.hid (B0.out.trans (hb2.mono B0.out.size)); clear hb2)
    go_ret
    exact ⟨_, rfl, intsAt_nil _, B1.out⟩
  · have hag := goodB_nat hgood
    have hw := hW hgood
    rw [hag] at hgood
    have HC := Lib.hid (walk_yes _ _ _ g en ag.toNat mode part _ HB.out HUB.out HPB.out hl hn hw.ne hgood hw.ok hw.home)
    rw [← hag] at HC
    rw [if_pos rfl]
    clear h hb hW hgood HB HUB HPB hw hag
    generalize walkL g en mode (maskL (nodesN g) part) (nodesN g) (leastL part) ag.toNat = WL at *
    generalize maskL (nodesN g) part = inl at *
    go_enter Try.func70, Try.ntmps70
    go_wp2_with (go_at_call 100; refine HC.out.mono ?_; rintro e w2 ⟨wb, ib, gS, gA, gT, wv, sv, rfl, hM⟩; have HM := Lib.hid hM; have c3 := cell_of_block hM.hs 6 _ rfl; clear hM)
    obtain ⟨sa', sc', rfl⟩ := own_var HM.out.rs
    go_ret
    exact ⟨_, rfl, own_ints HM.out.rs, B0.out.trans (HM.out.below.mono B0.out.size)⟩
end Go.Proofs.Ytnlaonppgebpoaa
