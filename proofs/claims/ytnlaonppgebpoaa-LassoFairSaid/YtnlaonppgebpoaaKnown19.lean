/-
  spinnakerlaw19.once: the walk. lasso's Make, where the path is none: for what must come of fixed calls. What must come of fixed calls: plain. spinnakerlaw19.known: the walk.
-/
import Derived.Test.YtnlaonppgebpoaaLassoPlain
namespace Go.Proofs.Ytnlaonppgebpoaa
open Go.RowKit

def SameE (e f : Ed) : Prop := e.1 = f.1 ∧ e.2.1 = f.2.1
def OnceI (l : List Ed) : Prop := ∀ i, i < l.length → ∀ k, k < i → ¬ SameE (l.getD i (0, 0, 0)) (l.getD k (0, 0, 0))
open Classical in
noncomputable def onceB (g : Gr) (en : List (List Bool)) (ag : Int) : Bool := decide (g.S.length ≤ 40 ∧ g.T.length ≤ 200 ∧ g.A.length ≤ 200 ∧ en.length ≤ 60 ∧ ag ≤ 20 ∧ rtB g en ag = true ∧ OnceI (allL g))
open Classical in
theorem onceB_spec {g : Gr} {en : List (List Bool)} {ag : Int} (h : onceB g en ag = true) : g.S.length ≤ 40 ∧ g.T.length ≤ 200 ∧ g.A.length ≤ 200 ∧ en.length ≤ 60 ∧ ag ≤ 20 ∧ rtB g en ag = true ∧ OnceI (allL g) := of_decide_eq_true h
open Classical in
theorem onceB_not {g : Gr} {en : List (List Bool)} {ag : Int} (h : ¬ (g.S.length ≤ 40 ∧ g.T.length ≤ 200 ∧ g.A.length ≤ 200 ∧ en.length ≤ 60 ∧ ag ≤ 20 ∧ rtB g en ag = true ∧ OnceI (allL g))) : onceB g en ag = false := decide_eq_false h
open Classical in
theorem onceB_yes {g : Gr} {en : List (List Bool)} {ag : Int} (h : g.S.length ≤ 40 ∧ g.T.length ≤ 200 ∧ g.A.length ≤ 200 ∧ en.length ≤ 60 ∧ ag ≤ 20 ∧ rtB g en ag = true ∧ OnceI (allL g)) : onceB g en ag = true := decide_eq_true h
theorem OnceI.once {g : Gr} (h : OnceI (allL g)) : OnceP g := by
  intro e he f hf h1 h2
  obtain ⟨i, hi, rfl⟩ := List.getElem_of_mem he
  obtain ⟨k, hk, rfl⟩ := List.getElem_of_mem hf
  have ei : (allL g).getD i (0, 0, 0) = (allL g)[i] := by rw [List.getD_eq_getElem?_getD, List.getElem?_eq_getElem hi]; rfl
  have ek : (allL g).getD k (0, 0, 0) = (allL g)[k] := by rw [List.getD_eq_getElem?_getD, List.getElem?_eq_getElem hk]; rfl
  rcases Nat.lt_trichotomy i k with q | q | q
  · exact absurd ⟨by rw [ei, ek]; exact h1.symm, by rw [ei, ek]; exact h2.symm⟩ (h k hk i q)
  · subst q; rfl
  · exact absurd ⟨by rw [ei, ek]; exact h1, by rw [ei, ek]; exact h2⟩ (h i hi k q)

set_option maxRecDepth 100000 in
set_option maxHeartbeats 32000000 in
theorem once_ok (v : Value) (g : Gr) (en : List (List Bool)) (ag : Int) (w : World) (h : TabArg w v g en ag) :
    Calls Try.prog 66 #[v] w fun e w' => e = .returned (.bool (onceB g en ag)) ∧ Below w.heap.size w w' := by
  have hel := h.len
  obtain ⟨sa, aa, ta, sc, ac, tc, ua, uc, rfl, hg, hu⟩ := h.var
  have HB := Lib.hid (balloc w (.cells #[.slice sa g.S.length sc, .slice aa g.A.length ac, .slice ta g.T.length tc, .slice ua en.length uc, .int .i64 ag] 55))
  have X0 := Lib.hid (heap_alloc_new w (.cells #[.slice sa g.S.length sc, .slice aa g.A.length ac, .slice ta g.T.length tc, .slice ua en.length uc, .int .i64 ag] 55))
  have hsS := hg.sS
  have hsA := hg.sA
  have hsT := hg.sT
  by_cases h1 : (40 : Int) < (g.S.length : Int)
  · have E : onceB g en ag = false := onceB_not (fun h => by omega)
    rw [E]
    clear E h hg hu
    go_enter Try.func66, Try.ntmps66
    go_wp2_with fail
    go_ret
    exact ⟨rfl, HB.out⟩
  by_cases h2 : (200 : Int) < (g.T.length : Int)
  · have E : onceB g en ag = false := onceB_not (fun h => by omega)
    rw [E]
    clear E h hg hu
    go_enter Try.func66, Try.ntmps66
    go_wp2_with fail
    go_ret
    exact ⟨rfl, HB.out⟩
  by_cases h3 : (200 : Int) < (g.A.length : Int)
  · have E : onceB g en ag = false := onceB_not (fun h => by omega)
    rw [E]
    clear E h hg hu
    go_enter Try.func66, Try.ntmps66
    go_wp2_with fail
    go_ret
    exact ⟨rfl, HB.out⟩
  by_cases h4 : (60 : Int) < (en.length : Int)
  · have E : onceB g en ag = false := onceB_not (fun h => by omega)
    rw [E]
    clear E h hg hu
    go_enter Try.func66, Try.ntmps66
    go_wp2_with fail
    go_ret
    exact ⟨rfl, HB.out⟩
  by_cases h5 : (20 : Int) < ag
  · have E : onceB g en ag = false := onceB_not (fun h => by omega)
    rw [E]
    clear E h hg hu
    go_enter Try.func66, Try.ntmps66
    go_wp2_with fail
    go_ret
    exact ⟨rfl, HB.out⟩
  have hGA : GraphAt w (.agg #[.slice sa g.S.length sc, .slice aa g.A.length ac, .slice ta g.T.length tc]) g := hg.small (by omega) (by omega) (by omega)
  have HR := Lib.hid (fun (w' : World) (hb : Below w.heap.size w w') => rrt_ok _ _ g en ag w' (hGA.below hb) (hu.below hb))
  cases hr : rtB g en ag
  · have E : onceB g en ag = false := onceB_not (fun h => by have := h.2.2.2.2.2.1; rw [hr] at this; cases this)
    rw [E]
    rw [hr] at HR
    clear E h hg hu hGA hr
    go_enter Try.func66, Try.ntmps66
    go_wp2_with (go_at_call 60; refine (HR.out _ HB.out).mono ?_; rintro e w1 ⟨rfl, hb1⟩; have HB1 := Lib.hid (HB.out.trans (hb1.mono HB.out.size)); clear hb1)
    go_ret
    exact ⟨rfl, HB1.out⟩
  rw [hr] at HR
  have HAL := Lib.hid (fun (w' : World) (hb : Below w.heap.size w w') => rall_ok _ g w' (hGA.below hb))
  have hal : (allL g).length ≤ 200 := by rw [allL_len (rtB_rt hr).right]; omega
  have HE : Hid (OnceI (allL g) → onceB g en ag = true) := Lib.hid (fun h => onceB_yes ⟨by omega, by omega, by omega, by omega, by omega, hr, h⟩)
  have HN : Hid (∀ i k, i < (allL g).length → k < i → SameE ((allL g).getD i (0, 0, 0)) ((allL g).getD k (0, 0, 0)) → onceB g en ag = false) := Lib.hid (fun i k hi hk hs => onceB_not (fun h => h.2.2.2.2.2.2 i hi k hk hs))
  have HS : Hid (∀ e f : Ed, SameE e f ↔ e.1 = f.1 ∧ e.2.1 = f.2.1) := Lib.hid (fun e f => Iff.rfl)
  unfold OnceI at HE
  clear h hg hu hGA hr
  generalize onceB g en ag = RES at *
  generalize allL g = el at *
  generalize SameE = SE at *
  go_enter Try.func66, Try.ntmps66
  go_wp2_with (first
    | (go_at_call 33; refine (HAL.out _ HB1.out).mono ?_; rintro e w2 ⟨rv, rfl, hE, hb2⟩; obtain ⟨ea, ec, rfl, hE⟩ := hE; have HED := Lib.hid hE; have HB2 := Lib.hid (HB1.out.trans (hb2.mono HB1.out.size)); clear hE hb2)
    | (go_at_call 60; refine (HR.out _ HB.out).mono ?_; rintro e w1 ⟨rfl, hb1⟩; have HB1 := Lib.hid (HB.out.trans (hb1.mono HB.out.size)); have hx := bheap hb1 X0.out; have c0 := cell_of_block hx 0 _ rfl; have c1 := cell_of_block hx 1 _ rfl; have c2 := cell_of_block hx 2 _ rfl; clear hb1 hx))
  clear c0 c1 c2
  go_loopg [4] el.length (fun fu c wr => ∃ i : Nat, i + fu = el.length ∧ c = .int .i64 i ∧ Hid (∀ j, j < i → ∀ k, k < j → ¬ SE (el.getD j (0, 0, 0)) (el.getD k (0, 0, 0))) ∧ Hid (Below w2.heap.size w2 wr))
  case atStart => exact ⟨0, by omega, rfl, Lib.hid (fun j hj => by omega), Lib.hid (Below.refl _ _)⟩
  case round =>
    obtain ⟨i, hi, rfl, HI, HBR⟩ := hrel
    by_cases hlt : i < el.length
    · have z1 : (i : Int) < (el.length : Int) := by omega
      go_wp2_with fail
      go_loopg [5] i (fun fu c wr => ∃ k : Nat, k + fu = i ∧ c = .int .i64 k ∧ Hid (∀ j, j < k → ¬ SE (el.getD i (0, 0, 0)) (el.getD j (0, 0, 0))) ∧ Hid (Below w2.heap.size w2 wr))
      case atStart => exact ⟨0, by omega, rfl, Lib.hid (fun j hj => by omega), HBR⟩
      case round =>
        clear HBR
        obtain ⟨k, hk, rfl, HK, HBR⟩ := hrel
        by_cases hlt2 : k < i
        · have z2 : (k : Int) < (i : Int) := by omega
          have z3 : (k : Int) < (el.length : Int) := by omega
          obtain ⟨b1, o1, rfl, d1, d2, -⟩ := HED.out i hlt
          obtain ⟨b2, o2, e2, p1, p2, -⟩ := HED.out k (by omega)
          cases e2
          have y1 := bkeep HBR.out d1
          have y2 := bkeep HBR.out d2
          have y3 := bkeep HBR.out p1
          have y4 := bkeep HBR.out p2
          have HX := Lib.hid (HN.out i k hlt hlt2)
          have HN2 : Hid (¬ SE (el.getD i (0, 0, 0)) (el.getD k (0, 0, 0)) → ∀ j, j < k + 1 → ¬ SE (el.getD i (0, 0, 0)) (el.getD j (0, 0, 0))) := Lib.hid (fun hne j hj => by
            by_cases e : j = k
            · rw [e]; exact hne
            · exact HK.out j (by omega))
          have HSS := Lib.hid (HS.out (el.getD i (0, 0, 0)) (el.getD k (0, 0, 0)))
          clear d1 d2 p1 p2
          generalize SE (el.getD i (0, 0, 0)) (el.getD k (0, 0, 0)) = SV at HX HN2 HSS
          generalize (el.getD i (0, 0, 0)).1 = ea1 at y1 HSS
          generalize (el.getD i (0, 0, 0)).2.1 = ea2 at y2 HSS
          generalize (el.getD k (0, 0, 0)).1 = eb1 at y3 HSS
          generalize (el.getD k (0, 0, 0)).2.1 = eb2 at y4 HSS
          by_cases q1 : ea1 = eb1
          · subst q1
            have n1 : (ea1 == ea1) = true := by simp
            by_cases q2 : ea2 = eb2
            · subst q2
              have n2 : (ea2 == ea2) = true := by simp
              have E := Lib.hid (HX.out (HSS.out.2 ⟨rfl, rfl⟩))
              go_wp2_with fail
              go_quiet (fail)
              go_wp2_with fail
              go_ret
              exact ⟨by rw [E.out]; rfl, HB2.out.trans (Below.mono (by first | exact HBR.out.drew | exact bdrewN HBR.out _) HB2.out.size)⟩
            · have n2 : (ea2 == eb2) = false := beq_false_of_ne q2
              have E := Lib.hid (HN2.out (fun q => q2 (HSS.out.1 q).2))
              go_wp2_with fail
              go_quiet (fail)
              go_wp2_with fail
              go_roundg (i - (k + 1))
              case measure => omega
              case rel => exact ⟨k + 1, by omega, by simp, E, Lib.hid (by first | exact HBR.out.drew | exact bdrewN HBR.out _)⟩
          · have n1 : (ea1 == eb1) = false := beq_false_of_ne q1
            have E := Lib.hid (HN2.out (fun q => q1 (HSS.out.1 q).1))
            go_wp2_with fail
            go_quiet (fail)
            go_wp2_with fail
            go_roundg (i - (k + 1))
            case measure => omega
            case rel => exact ⟨k + 1, by omega, by simp, E, Lib.hid (by first | exact HBR.out.drew | exact bdrewN HBR.out _)⟩
        · have hki : i = k := by omega
          subst hki
          have HNX : Hid (∀ j, j < i + 1 → ∀ k, k < j → ¬ SE (el.getD j (0, 0, 0)) (el.getD k (0, 0, 0))) := Lib.hid (fun j hj => by
            by_cases e : j = i
            · rw [e]; exact HK.out
            · exact HI.out j (by omega))
          go_wp2_with fail
          go_roundg (el.length - (i + 1))
          case measure => omega
          case rel => exact ⟨i + 1, by omega, by simp, HNX, HBR⟩
    · obtain rfl : i = el.length := by omega
      have E := Lib.hid (HE.out HI.out)
      go_wp2_with fail
      go_ret
      exact ⟨by rw [E.out]; rfl, HB2.out.trans (HBR.out.mono HB2.out.size)⟩
end Go.Proofs.Ytnlaonppgebpoaa

namespace Go.Proofs.Ytnlaonppgebpoaa
open Go.RowKit

set_option maxRecDepth 100000 in
set_option maxHeartbeats 8000000 in
theorem to_zero (ca : Option Addr) (m cc : Nat) (gS gA gT pv bv : Value) (w : World) (hm : 0 < m) :
    Calls Try.prog 113 #[.agg #[.slice ca m cc, gS, gA, gT, pv, bv], .int .i64 0] w fun e w' => e = .returned (.slice none 0 0) ∧ Below w.heap.size w w' := by
  have HB := Lib.hid (balloc w (.cells #[.slice ca m cc, gS, gA, gT, pv, bv] 108))
  have HR := Lib.hid (fun (w' : World) => reversed_ok (.slice none 0 0) [] w'.heap.size w' (World.ownsRow_nil _ _ _ _) (by simp))
  have z1 : (0 : Int) < (m : Int) := by omega
  have z2 : ¬ ((m : Int) ≤ 0) := by omega
  go_enter Try.func113, Try.ntmps113
  go_wp2_with fail
  go_loopg [1, 5] 1 (fun fu iv lv wr => fu = 1 ∧ iv = .int .i64 0 ∧ lv = .slice none 0 0 ∧ wr = w.alloc (.cells #[.slice ca m cc, gS, gA, gT, pv, bv] 108))
  case atStart => exact ⟨rfl, rfl, rfl, rfl⟩
  case round =>
    obtain ⟨-, rfl, rfl, rfl⟩ := hrel
    go_wp2_with (go_at_call 122; refine (HR.out _).mono ?_; rintro e w5 ⟨rfl, -, hf5⟩; have HF5 := Lib.hid (hf5.below (B := w.heap.size) (fun k hk => by simp [Value.ownBlock] at hk) HB.out.size); clear hf5)
    go_ret
    exact ⟨rfl, HB.out.trans HF5.out⟩

set_option maxRecDepth 100000 in
set_option maxHeartbeats 16000000 in
theorem make_ok (u pv : Value) (ca : Option Addr) (m cc : Nat) (gS gA gT qv bv : Value) (g : Gr) (en : List (List Bool)) (ag mode : Int) (part : List Int) (w : World) (h : GraphAt w (.agg #[gS, gA, gT]) g) (hu : BRowsAt w u en) (hp : IntsAt w pv part) (hl : part.length ≤ 1000000) (hn : nodesN g ≤ 100000) (hm : 0 < m)
    (hW : goodB g en ag mode part = true → GdOk g en ag mode part) (hgood : goodB g en ag mode part = true) (h0 : leastL part = 0) :
    Calls Try.prog 99 #[.agg #[.slice ca m cc, gS, gA, gT, qv, bv], u, .int .i64 ag, .int .i64 mode, pv] w fun e w' => ∃ rv, e = .returned (.tuple #[.slice none 0 0, rv, .bool true]) ∧ IntsAt w' rv (walkG g en ag mode part).2.1 ∧ Below w.heap.size w w' := by
  have hb := balloc w (.cells #[.slice ca m cc, gS, gA, gT, qv, bv] 108)
  have B0 := Lib.hid hb
  have X0 := Lib.hid (heap_alloc_new w (.cells #[.slice ca m cc, gS, gA, gT, qv, bv] 108))
  have HC := Lib.hid (lcycle_ok _ _ _ g en ag mode part _ (h.below hb) (hu.below hb) (hp.below hb) hl hn hW)
  have HPA := Lib.hid hp
  have HLE := Lib.hid (fun (w' : World) (hb : Below w.heap.size w w') => (by have := least_ok _ part w' (HPA.out.below hb) (hW hgood).ne hl; rwa [h0] at this : Calls Try.prog 114 #[pv] w' fun e w2 => e = .returned (.int .i64 0) ∧ Below w'.heap.size w' w2))
  have HT := Lib.hid (fun (w' : World) => to_zero ca m cc gS gA gT qv bv w' hm)
  rw [hgood] at HC
  obtain ⟨ua, uc, rfl, -⟩ := hu
  obtain ⟨pa, pc, rfl, -⟩ := hp
  clear h hb hW hgood HPA h0
  generalize (walkG g en ag mode part).2.1 = WL at *
  go_enter Try.func99, Try.ntmps99
  go_wp2_with (go_at_call 68; refine HC.out.mono ?_; rintro e w2 ⟨rv, rfl, hi, hb2⟩; obtain ⟨ra, rc, rfl, -⟩ := id hi; have HI := Lib.hid hi; have B2 := Lib.hid (B0.out.trans (hb2.mono B0.out.size)); have Y0 := Lib.hid (bheap hb2 X0.out); clear hb2 hi)
  have c0 := cell_of_block Y0.out 0 _ rfl
  have c1 := cell_of_block Y0.out 1 _ rfl
  have c2 := cell_of_block Y0.out 2 _ rfl
  have c3 := cell_of_block Y0.out 3 _ rfl
  have c4 := cell_of_block Y0.out 4 _ rfl
  have c5 := cell_of_block Y0.out 5 _ rfl
  have f0 : ∀ i : Sub w2, i.1.cell? ⟨w.heap.size, 0, none⟩ = some (.slice ca m cc) := fun i => i.cell c0
  have f1 : ∀ i : Sub w2, i.1.cell? ⟨w.heap.size, 1, none⟩ = some gS := fun i => i.cell c1
  have f2 : ∀ i : Sub w2, i.1.cell? ⟨w.heap.size, 2, none⟩ = some gA := fun i => i.cell c2
  have f3 : ∀ i : Sub w2, i.1.cell? ⟨w.heap.size, 3, none⟩ = some gT := fun i => i.cell c3
  have f4 : ∀ i : Sub w2, i.1.cell? ⟨w.heap.size, 4, none⟩ = some qv := fun i => i.cell c4
  have f5 : ∀ i : Sub w2, i.1.cell? ⟨w.heap.size, 5, none⟩ = some bv := fun i => i.cell c5
  have HLE2 := Lib.hid (fun (i : Sub w2) => HLE.out i.1 (B2.out.trans (i.2.mono B2.out.size)))
  have HT2 := Lib.hid (fun (i : Sub w2) => HT.out i.1)
  clear c0 c1 c2 c3 c4 c5
  refine region_below (by kernel_rfl) (by kernel_rfl) ?_
  repeat (go_big_quiet_step (first
    | (go_at_call 113; exact Calls.sub_of (HT2.out _))
    | (go_at_call 114; exact Calls.sub_of (HLE2.out _))))
  refine wpQuiet_nil ?_
  intro w4 hb4
  have HI4 := Lib.hid (HI.out.below hb4)
  have B4 := Lib.hid (B2.out.trans (hb4.mono B2.out.size))
  clear hb4 f0 f1 f2 f3 f4 f5 HLE2 HT2
  go_wp2_with fail
  refine bodyPost_ret (v := .tuple #[.slice none 0 0, .slice ra WL.length rc, .bool true]) (by simp [results, Try.results99, go_sem]) rfl ?_
  exact ⟨_, rfl, HI4.out, B4.out⟩
end Go.Proofs.Ytnlaonppgebpoaa

namespace Go.Proofs.Ytnlaonppgebpoaa

def kE9 : List Ed := [(0, 0, 1), (1, 1, 0)]
def kG9 : Gr := csr 2 kE9
def t9 : List (List Bool) := [[true, false], [false, true]]
theorem k9B : buildG 2 kE9 = kG9 := rfl
theorem k9N : nodesN kG9 = 2 := by decide
theorem k9A : allL kG9 = kE9 := by decide
theorem k9R : Rt kG9 := csr_right (by decide)
theorem k9P : partsI kG9 = [0, 0] := by
  have h : (cnS (fun _ _ => true) (nodesN kG9)).1 = partsL kG9 := by
    refine partsL_congr fun i k hi hk => ?_
    rw [k9N] at hi
    obtain ⟨rfl, rfl⟩ : i = 1 ∧ k = 0 := by omega
    refine ⟨fun _ => ⟨.one ⟨(1, 1, 0), by rw [k9A]; decide, rfl, rfl⟩, .one ⟨(0, 0, 1), by rw [k9A]; decide, rfl, rfl⟩⟩, fun _ => rfl⟩
  unfold partsI
  rw [← h, k9N]
  decide
theorem k9Gr : groupsI kG9 = [[0, 1]] := by
  unfold groupsI
  rw [k9P]
  decide
theorem k9C1 : cycB kG9 [0, 1] = true := by
  unfold cycB
  exact decide_eq_true ⟨(0, 0, 1), by rw [k9A]; decide, by decide, by decide⟩
theorem k9C2 : cycB kG9 [1, 0] = true := by
  unfold cycB
  exact decide_eq_true ⟨(0, 0, 1), by rw [k9A]; decide, by decide, by decide⟩
theorem k9C3 : cycB kG9 [0] = false := by
  unfold cycB
  refine decide_eq_false ?_
  rintro ⟨e, he, h1, h2⟩
  rw [k9A] at he
  simp only [kE9, List.mem_cons, List.not_mem_nil, or_false] at he
  rcases he with rfl | rfl <;> simp at h1 h2
theorem k9RT : RT kG9 t9 2 := ⟨k9R, by omega, by omega, by rw [k9N]; rfl, by decide, by rw [k9A]; decide⟩
theorem k9F1 : fairB kG9 t9 spS 2 [0, 1] = true := by unfold fairB; rw [k9C1]; decide
theorem k9F2 : fairB kG9 t9 spW 2 [1, 0] = true := by unfold fairB; rw [k9C2]; decide
theorem k9F3 : fairB kG9 t9 spS 2 [0] = false := by unfold fairB; rw [k9C3]; rfl
theorem k9Ok (l : List Int) (h : l = [0, 1] ∨ l = [1, 0]) : OkP (nodesN kG9) l := by
  rw [k9N]
  refine ⟨by rcases h with rfl | rfl <;> decide, fun x hx => ?_⟩
  have hx : x = 0 ∨ x = 1 := by rcases h with rfl | rfl <;> simp at hx <;> omega
  rcases hx with rfl | rfl
  · exact ⟨0, rfl, by omega⟩
  · exact ⟨1, rfl, by omega⟩
theorem k9One : (withinI kG9 (maskL (nodesN kG9) [0, 1])).length = 1 := row_con k9R (by decide) (l := List.replicate (nodesN kG9) true) (by rw [← groups_within k9R (by decide), k9Gr]; simp)
theorem k9M : maskL (nodesN kG9) [1, 0] = maskL (nodesN kG9) [0, 1] := by decide
theorem k9Go1 : goodB kG9 t9 2 2 [0, 1] = true := goodB_iff.2 ⟨k9RT, k9Ok _ (.inl rfl), k9One, .inr ⟨rfl, k9F1⟩⟩
theorem k9Go2 : goodB kG9 t9 2 2 [0] = false := goodB_not fun q => q.2.2.2.elim (fun z => absurd z.1 (by omega)) (fun z => by have h := z.2; rw [show ((2 : Int).toNat) = 2 from rfl, k9F3] at h; cases h)
theorem k9Go3 : goodB kG9 t9 2 1 [1, 0] = true := goodB_iff.2 ⟨k9RT, k9Ok _ (.inr rfl), by rw [k9M]; exact k9One, .inl ⟨rfl, k9F2⟩⟩
theorem k9Once : OnceP kG9 := by
  intro e he f hf h1 h2
  rw [k9A] at he hf
  simp only [kE9, List.mem_cons, List.not_mem_nil, or_false] at he hf
  rcases he with rfl | rfl <;> rcases hf with rfl | rfl <;> simp_all
theorem k9W1 : (walkG kG9 t9 2 2 [0, 1]).2.1 = [0, 1] := by unfold walkG; rw [if_pos k9Go1]; decide
theorem k9W2 : (walkG kG9 t9 2 2 [0, 1]).2.2 = [0, 1, 0] := by unfold walkG; rw [if_pos k9Go1]; decide
theorem k9W3 : (walkG kG9 t9 2 1 [1, 0]).2.1 = [0, 1] := by unfold walkG; rw [if_pos k9Go3]; decide
theorem k9L : leastL [1, 0] = 0 := by decide
end Go.Proofs.Ytnlaonppgebpoaa

namespace Go.Proofs.Ytnlaonppgebpoaa
open Go.RowKit

/-- a graph, its table -/
structure K9 (w wr : World) (b1 : Nat) (c1 : Array Value) (G1 : Gr) (u : Value) : Prop where
  a : KnSt w wr b1 c1 G1
  t : BRowsAt wr u t9
theorem K9.more {w wr w' : World} {b1 : Nat} {c1 : Array Value} {G1 : Gr} {u : Value} (h : K9 w wr b1 c1 G1 u) (hb : Below wr.heap.size wr w') : K9 w w' b1 c1 G1 u := ⟨h.a.more hb, h.t.below hb⟩
theorem k9_start {w w1 : World} {cs : Array Value} {G1 : Gr} (h : Below w.heap.size w w1) (hg : GraphAt w1 (.agg cs) G1) :
    K9 w ((((w1.alloc (.cells cs 26)).alloc (.cells #[.bool true, .bool false] 4)).alloc (.cells #[.bool false, .bool true] 4)).alloc (.cells #[.slice (some ⟨w1.heap.size + 1, 0, none⟩) 2 2, .slice (some ⟨w1.heap.size + 1 + 1, 0, none⟩) 2 2] 33)) w1.heap.size cs G1 (.slice (some ⟨w1.heap.size + 1 + 1 + 1, 0, none⟩) 2 2) := by
  have k0 := KnSt.intro h hg
  have x1 := heap_alloc_at (w1.alloc (.cells cs 26)) (.cells #[.bool true, .bool false] 4) (w1.heap.size + 1) (by simp)
  have m1 := balloc (w1.alloc (.cells cs 26)) (.cells #[.bool true, .bool false] 4)
  have x2 := heap_alloc_at ((w1.alloc (.cells cs 26)).alloc (.cells #[.bool true, .bool false] 4)) (.cells #[.bool false, .bool true] 4) (w1.heap.size + 1 + 1) (by simp)
  have m2 := balloc ((w1.alloc (.cells cs 26)).alloc (.cells #[.bool true, .bool false] 4)) (.cells #[.bool false, .bool true] 4)
  have x3 := heap_alloc_at (((w1.alloc (.cells cs 26)).alloc (.cells #[.bool true, .bool false] 4)).alloc (.cells #[.bool false, .bool true] 4)) (.cells #[.slice (some ⟨w1.heap.size + 1, 0, none⟩) 2 2, .slice (some ⟨w1.heap.size + 1 + 1, 0, none⟩) 2 2] 33) (w1.heap.size + 1 + 1 + 1) (by simp)
  have m3 := balloc (((w1.alloc (.cells cs 26)).alloc (.cells #[.bool true, .bool false] 4)).alloc (.cells #[.bool false, .bool true] 4)) (.cells #[.slice (some ⟨w1.heap.size + 1, 0, none⟩) 2 2, .slice (some ⟨w1.heap.size + 1 + 1, 0, none⟩) 2 2] 33)
  exact ⟨((k0.more m1).more m2).more m3, brows_two (bheap m3 (bheap m2 x1)) (bheap m3 x2) x3⟩

/-- .. and a row of numbers -/
structure K9c (w wr : World) (b1 : Nat) (c1 : Array Value) (G1 : Gr) (u cv : Value) : Prop where
  k : K9 w wr b1 c1 G1 u
  c : IntsAt wr cv [0, 1]
theorem K9c.more {w wr w' : World} {b1 : Nat} {c1 : Array Value} {G1 : Gr} {u cv : Value} (h : K9c w wr b1 c1 G1 u cv) (hb : Below wr.heap.size wr w') : K9c w w' b1 c1 G1 u cv := ⟨h.k.more hb, h.c.below hb⟩

set_option maxRecDepth 100000 in
set_option maxHeartbeats 32000000 in
theorem known19 (w : World) : Calls Try.prog 67 #[] w fun e w' => e = .returned (.bool true) ∧ Below w.heap.size w w' := by
  have E1 := Lib.hid (edgesAt_block (b := w.heap.size) (l := kE9) (heap_alloc_new w _) rfl 2)
  have HB1 := Lib.hid (rbuild_any 2 _ kE9 _ E1.out (by decide))
  rw [k9B, show buildE 2 kE9 = 0 by decide] at HB1
  have HC1 : Hid (∀ (w' : World) (v u p : Value), GraphAt w' v kG9 → BRowsAt w' u t9 → IntsAt w' p [0, 1] → Calls Try.prog 68 #[v, u, .int .i64 2, .int .i64 2, p] w' fun e w2 => ∃ rv, e = .returned (.tuple #[rv, .bool true]) ∧ IntsAt w2 rv [0, 1] ∧ Below w'.heap.size w' w2) := Lib.hid (fun w' v u p h hu hp => by have := lcycle_ok v u p kG9 t9 2 2 [0, 1] w' h hu hp (by decide) (by rw [k9N]; omega) (gdG_ok (by decide) k9Once); rwa [k9Go1, k9W1] at this)
  have HC2 : Hid (∀ (w' : World) (v u p : Value), GraphAt w' v kG9 → BRowsAt w' u t9 → IntsAt w' p [0] → Calls Try.prog 68 #[v, u, .int .i64 2, .int .i64 2, p] w' fun e w2 => ∃ rv, e = .returned (.tuple #[rv, .bool false]) ∧ IntsAt w2 rv (walkG kG9 t9 2 2 [0]).2.1 ∧ Below w'.heap.size w' w2) := Lib.hid (fun w' v u p h hu hp => by have := lcycle_ok v u p kG9 t9 2 2 [0] w' h hu hp (by decide) (by rw [k9N]; omega) (gdG_ok (by decide) k9Once); rwa [k9Go2] at this)
  have HS1 : Hid (∀ (w' : World) (v u p : Value), GraphAt w' v kG9 → BRowsAt w' u t9 → IntsAt w' p [0, 1] → Calls Try.prog 70 #[v, u, .int .i64 2, .int .i64 2, p] w' (IntsBack w' [0, 1, 0])) := Lib.hid (fun w' v u p h hu hp => by have := lstops_ok v u p kG9 t9 2 2 [0, 1] w' h hu hp (by decide) (by rw [k9N]; omega) (gdG_ok (by decide) k9Once); rwa [k9W2] at this)
  have HMK : Hid (∀ (w' : World) (u p : Value) (ca : Option Addr) (cc : Nat) (gS gA gT qv bv : Value), GraphAt w' (.agg #[gS, gA, gT]) kG9 → BRowsAt w' u t9 → IntsAt w' p [1, 0] → Calls Try.prog 99 #[.agg #[.slice ca 2 cc, gS, gA, gT, qv, bv], u, .int .i64 2, .int .i64 1, p] w' fun e w2 => ∃ rv, e = .returned (.tuple #[.slice none 0 0, rv, .bool true]) ∧ IntsAt w2 rv [0, 1] ∧ Below w'.heap.size w' w2) := Lib.hid (fun w' u p ca cc gS gA gT qv bv h hu hp => by have := make_ok u p ca 2 cc gS gA gT qv bv kG9 t9 2 1 [1, 0] w' h hu hp (by decide) (by rw [k9N]; omega) (by omega) (gdG_ok (by decide) k9Once) k9Go3 k9L; rwa [k9W3] at this)
  clear E1
  generalize (walkG kG9 t9 2 2 [0]).2.1 = WNO at *
  generalize kG9 = G1 at *
  go_enter Try.func67, Try.ntmps67
  go_wp2_with (first
    | (go_at_call 42; refine (ints_same _ _ [0, 1, 0] _ (I7.out.below (balloc _ _)) (intsAt_block (xs := [0, 1, 0]) (heap_alloc_new w7 _) rfl 3) (by decide)).mono ?_; rintro e w8 ⟨rfl, hb⟩; have S8 := Lib.hid ((S7.out.more (balloc _ _)).more hb); clear hb)
    | (go_at_call 70; refine (HS1.out _ _ _ _ (S6.out.more (balloc _ _)).k.a.g1 (S6.out.more (balloc _ _)).k.t (intsAt_block (xs := [0, 1]) (heap_alloc_new w6 _) rfl 2)).mono ?_; rintro e w7 ⟨rv, rfl, hi, hb⟩; obtain ⟨ra7, rc7, rfl, -⟩ := id hi; have I7 := Lib.hid hi; have S7 := Lib.hid ((S6.out.more (balloc _ _)).more hb); clear hb hi)
    | (go_at_call 42; refine (ints_same _ _ [0, 1] _ (S5.out.c.below (balloc _ _)) (intsAt_block (xs := [0, 1]) (heap_alloc_new w5 _) rfl 2) (by decide)).mono ?_; rintro e w6 ⟨rfl, hb⟩; have S6 := Lib.hid ((S5.out.more (balloc _ _)).more hb); clear c0 c1 c2; have c0 := cell_of_block S6.out.k.a.l1 0 _ rfl; have c1 := cell_of_block S6.out.k.a.l1 1 _ rfl; have c2 := cell_of_block S6.out.k.a.l1 2 _ rfl; clear hb)
    | (go_at_call 99; refine (HMK.out _ _ _ _ _ _ _ _ _ _ (((((S4.out.more (balloc _ _)).more (balloc _ _)).more (balloc _ _)).more (balloc _ _)).more (balloc _ _)).k.a.g1 (((((S4.out.more (balloc _ _)).more (balloc _ _)).more (balloc _ _)).more (balloc _ _)).more (balloc _ _)).k.t (intsAt_block (xs := [1, 0]) (heap_alloc_at _ _ (w4.heap.size + 1 + 1 + 1 + 1) (by simp)) rfl 2)).mono ?_; rintro e w5 ⟨rv, rfl, hi, hb⟩; obtain ⟨ra5, rc5, rfl, -⟩ := hi; have S5 := Lib.hid ((((((S4.out.more (balloc _ _)).more (balloc _ _)).more (balloc _ _)).more (balloc _ _)).more (balloc _ _)).more hb); clear c0 c1 c2; have c0 := cell_of_block S5.out.k.a.l1 0 _ rfl; have c1 := cell_of_block S5.out.k.a.l1 1 _ rfl; have c2 := cell_of_block S5.out.k.a.l1 2 _ rfl; clear d0 d1 d2 hb)
    | (go_at_call 68; refine (HC2.out _ _ _ _ (S3.out.more (balloc _ _)).k.a.g1 (S3.out.more (balloc _ _)).k.t (intsAt_block (xs := [0]) (heap_alloc_new w3 _) rfl 1)).mono ?_; rintro e w4 ⟨rv, rfl, hi, hb⟩; obtain ⟨ra4, rc4, rfl, -⟩ := id hi; have S4 := Lib.hid ((S3.out.more (balloc _ _)).more hb); clear c0 c1 c2; have c0 := cell_of_block S4.out.k.a.l1 0 _ rfl; have c1 := cell_of_block S4.out.k.a.l1 1 _ rfl; have c2 := cell_of_block S4.out.k.a.l1 2 _ rfl; have d0 := bkeep (balloc w4 (.cells #[.slice none 0 0, .slice none 0 0, .slice none 0 0, .slice none 0 0, .slice none 0 0, .slice none 0 0, .slice none 0 0, .slice none 0 0] 105)) c0; have d1 := bkeep (balloc w4 (.cells #[.slice none 0 0, .slice none 0 0, .slice none 0 0, .slice none 0 0, .slice none 0 0, .slice none 0 0, .slice none 0 0, .slice none 0 0] 105)) c1; have d2 := bkeep (balloc w4 (.cells #[.slice none 0 0, .slice none 0 0, .slice none 0 0, .slice none 0 0, .slice none 0 0, .slice none 0 0, .slice none 0 0, .slice none 0 0] 105)) c2; clear hb hi)
    | (go_at_call 68; refine (HC1.out _ _ _ _ (S2.out.more (balloc _ _)).a.g1 (S2.out.more (balloc _ _)).t (intsAt_block (xs := [0, 1]) (heap_alloc_at _ _ (w1.heap.size + 1 + 1 + 1 + 1) (by simp)) rfl 2)).mono ?_; rintro e w3 ⟨rv, rfl, hi, hb⟩; obtain ⟨ra3, rc3, rfl, -⟩ := id hi; have S3 := Lib.hid (K9c.mk ((S2.out.more (balloc _ _)).more hb) hi); clear c0 c1 c2; have c0 := cell_of_block S3.out.k.a.l1 0 _ rfl; have c1 := cell_of_block S3.out.k.a.l1 1 _ rfl; have c2 := cell_of_block S3.out.k.a.l1 2 _ rfl; clear hb hi)
    | (go_at_call 22; refine HB1.out.mono ?_; rintro e w1 ⟨v1, rfl, hG, hb⟩; obtain ⟨s1, a1, t1, p1, q1, r1, rfl, -⟩ := hG.var; have S2 := Lib.hid (k9_start ((balloc w _).trans (hb.mono (by simp))) hG); have c0 := cell_of_block S2.out.a.l1 0 _ rfl; have c1 := cell_of_block S2.out.a.l1 1 _ rfl; have c2 := cell_of_block S2.out.a.l1 2 _ rfl; clear hb hG))
  go_ret
  exact ⟨rfl, S8.out.k.a.below⟩
end Go.Proofs.Ytnlaonppgebpoaa
