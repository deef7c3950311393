/-
  The references' comparisons, of two that read alike: true. Light.
-/
import Derived.Test.YtnlaonppgebpoaaRight
namespace Go.Proofs.Ytnlaonppgebpoaa
open Go.RowKit

set_option maxRecDepth 100000 in
set_option maxHeartbeats 1000000 in
theorem ints_same (v u : Value) (l : List Int) (w : World) (h : IntsAt w v l) (k : IntsAt w u l) (hl : l.length ≤ 1000000) :
    Calls Try.prog 42 #[v, u] w fun e w' => e = .returned (.bool true) ∧ Below w.heap.size w w' := by
  obtain ⟨a, ac, rfl, ha⟩ := h
  obtain ⟨b, bc, rfl, hb⟩ := k
  have HA := Lib.hid ha
  have HB := Lib.hid hb
  clear ha hb
  have nl := ne_false (l.length : Int)
  go_enter Try.func42, Try.ntmps42
  go_wp2_with fail
  clear nl
  go_loopg [5] l.length (fun fu c wr => ∃ k : Nat, k + fu = l.length ∧ c = .int .i64 k ∧ Below w.heap.size w wr)
  case atStart => exact ⟨0, by omega, rfl, Below.refl _ _⟩
  case round =>
    obtain ⟨k, hk, rfl, hbw⟩ := hrel
    by_cases hlt : k < l.length
    · obtain ⟨b1, o1, rfl, d1⟩ := HA.out k hlt
      obtain ⟨b2, o2, rfl, d2⟩ := HB.out k hlt
      have y1 := bkeep hbw d1
      have y2 := bkeep hbw d2
      have z1 : (k : Int) < (l.length : Int) := by omega
      have n1 := ne_false (l.getD k 0)
      clear d1 d2
      generalize l.getD k 0 = x at *
      go_wp2_with fail
      go_quiet (fail)
      go_wp2_with fail
      go_roundg (gk - 1)
      case measure => omega
      case rel => exact ⟨k + 1, by omega, by simp, bdrewN hbw _⟩
    · go_wp2_with fail
      go_ret
      exact ⟨rfl, hbw⟩

set_option maxRecDepth 100000 in
set_option maxHeartbeats 1000000 in
theorem bools_same (v u : Value) (l : List Bool) (w : World) (h : BoolsAt w v l) (k : BoolsAt w u l) (hl : l.length ≤ 1000000) :
    Calls Try.prog 38 #[v, u] w fun e w' => e = .returned (.bool true) ∧ Below w.heap.size w w' := by
  obtain ⟨a, ac, rfl, ha⟩ := h
  obtain ⟨b, bc, rfl, hb⟩ := k
  have HA := Lib.hid ha
  have HB := Lib.hid hb
  clear ha hb
  have nl := ne_false (l.length : Int)
  go_enter Try.func38, Try.ntmps38
  go_wp2_with fail
  clear nl
  go_loopg [5] l.length (fun fu c wr => ∃ k : Nat, k + fu = l.length ∧ c = .int .i64 k ∧ Below w.heap.size w wr)
  case atStart => exact ⟨0, by omega, rfl, Below.refl _ _⟩
  case round =>
    obtain ⟨k, hk, rfl, hbw⟩ := hrel
    by_cases hlt : k < l.length
    · obtain ⟨b1, o1, rfl, d1⟩ := HA.out k hlt
      obtain ⟨b2, o2, rfl, d2⟩ := HB.out k hlt
      have y1 := bkeep hbw d1
      have y2 := bkeep hbw d2
      have z1 : (k : Int) < (l.length : Int) := by omega
      have n1 : (!l.getD k false == l.getD k false) = false := by simp
      have n2 : (l.getD k false != l.getD k false) = false := by simp
      clear d1 d2
      generalize l.getD k false = x at *
      go_wp2_with fail
      go_quiet (fail)
      go_wp2_with fail
      go_roundg (gk - 1)
      case measure => omega
      case rel => exact ⟨k + 1, by omega, by simp, bdrewN hbw _⟩
    · go_wp2_with fail
      go_ret
      exact ⟨rfl, hbw⟩

theorem edge_neq (x y z : Int) (w : World) : (binOp .neq 44 (.agg #[.int .i64 x, .int .i64 y, .int .i64 z]) (.agg #[.int .i64 x, .int .i64 y, .int .i64 z])).run Try.prog w = .ok (.bool false) w := by
  simp [go_sem]

set_option maxRecDepth 100000 in
set_option maxHeartbeats 1000000 in
theorem edges_same (v u : Value) (l : List Ed) (w : World) (h : EdgesAt w v l) (k : EdgesAt w u l) (hl : l.length ≤ 1000000) :
    Calls Try.prog 24 #[v, u] w fun e w' => e = .returned (.bool true) ∧ Below w.heap.size w w' := by
  obtain ⟨a, ac, rfl, ha⟩ := h
  obtain ⟨b, bc, rfl, hb⟩ := k
  have HA := Lib.hid ha
  have HB := Lib.hid hb
  clear ha hb
  have nl := ne_false (l.length : Int)
  go_enter Try.func24, Try.ntmps24
  go_wp2_with fail
  clear nl
  go_loopg [5] l.length (fun fu c wr => ∃ k : Nat, k + fu = l.length ∧ c = .int .i64 k ∧ Below w.heap.size w wr)
  case atStart => exact ⟨0, by omega, rfl, Below.refl _ _⟩
  case round =>
    obtain ⟨k, hk, rfl, hbw⟩ := hrel
    by_cases hlt : k < l.length
    · obtain ⟨b1, o1, rfl, d1, d2, d3⟩ := HA.out k hlt
      obtain ⟨b2, o2, rfl, f1, f2, f3⟩ := HB.out k hlt
      have y1 := bkeep hbw d1
      have y2 := bkeep hbw d2
      have y3 := bkeep hbw d3
      have y4 := bkeep hbw f1
      have y5 := bkeep hbw f2
      have y6 := bkeep hbw f3
      have z1 : (k : Int) < (l.length : Int) := by omega
      clear d1 d2 d3 f1 f2 f3
      have hne := edge_neq
      generalize l.getD k (0, 0, 0) = x at *
      obtain ⟨xa, xb, xc⟩ := x
      go_wp2_with fail
      go_quiet (fail)
      go_wp2_with fail
      go_roundg (gk - 1)
      case measure => omega
      case rel => exact ⟨k + 1, by omega, by simp, bdrewN hbw _⟩
    · go_wp2_with fail
      go_ret
      exact ⟨rfl, hbw⟩

set_option maxRecDepth 100000 in
set_option maxHeartbeats 4000000 in
theorem graphs_same (v u : Value) (g : Gr) (w : World) (h : GraphAt w v g) (k : GraphAt w u g) :
    Calls Try.prog 23 #[v, u] w fun e w' => e = .returned (.bool true) ∧ Below w.heap.size w w' := by
  have h4 := h.sS
  have h5 := h.sA
  have h6 := h.sT
  obtain ⟨sa, aa, ta, sc, ac, tc, rfl, hv⟩ := h.var
  have HB1 := Lib.hid (balloc w (.cells #[.slice sa g.S.length sc, .slice aa g.A.length ac, .slice ta g.T.length tc] 26))
  obtain ⟨sb, ab, tb, sd, ad, td, rfl, hu⟩ := (k.below HB1.out).var
  have hv2 := hv.below (balloc (w.alloc (.cells #[.slice sa g.S.length sc, .slice aa g.A.length ac, .slice ta g.T.length tc] 26)) (.cells #[.slice sb g.S.length sd, .slice ab g.A.length ad, .slice tb g.T.length td] 26))
  have HB := Lib.hid (HB1.out.trans ((balloc (w.alloc (.cells #[.slice sa g.S.length sc, .slice aa g.A.length ac, .slice ta g.T.length tc] 26)) (.cells #[.slice sb g.S.length sd, .slice ab g.A.length ad, .slice tb g.T.length td] 26)).mono HB1.out.size))
  clear h k hv HB1
  have nS := ne_false (g.S.length : Int)
  have nA := ne_false (g.A.length : Int)
  have nT := ne_false (g.T.length : Int)
  rw [World.size_alloc] at hu
  go_enter Try.func23, Try.ntmps23
  go_wp2_with fail
  clear nS nA nT
  generalize World.alloc (World.alloc w _) _ = w2 at *
  have HP := Lib.hid hv2
  have HQ := Lib.hid hu
  have p0 := hv2.c0
  have p1 := hv2.c1
  have p2 := hv2.c2
  have q0 := hu.c0
  have q1 := hu.c1
  have q2 := hu.c2
  clear hv2 hu
  go_loopg [5] g.S.length (fun fu c wr => ∃ k : Nat, k + fu = g.S.length ∧ c = .int .i64 k ∧ Below w2.heap.size w2 wr)
  case atStart => exact ⟨0, by omega, rfl, Below.refl _ _⟩
  case round =>
    obtain ⟨k, hk, rfl, hbw⟩ := hrel
    have x0 := bkeep hbw p0
    have x1 := bkeep hbw p1
    have x2 := bkeep hbw p2
    have x3 := bkeep hbw q0
    have x4 := bkeep hbw q1
    have x5 := bkeep hbw q2
    by_cases hlt : k < g.S.length
    · obtain ⟨b1, o1, rfl, d1⟩ := HP.out.hs k hlt
      obtain ⟨b2, o2, rfl, d2⟩ := HQ.out.hs k hlt
      have y1 := bkeep hbw d1
      have y2 := bkeep hbw d2
      have z1 : (k : Int) < (g.S.length : Int) := by omega
      have n1 := ne_false (g.S.getD k 0)
      clear d1 d2
      generalize g.S.getD k 0 = x at *
      go_wp2_with fail
      go_quiet (fail)
      go_wp2_with fail
      go_roundg (gk - 1)
      case measure => omega
      case rel => exact ⟨k + 1, by omega, by simp, bdrewN hbw _⟩
    · go_wp2_with fail
      clear x0 x1 x2 x3 x4 x5 hlt hk
      have HZ := Lib.hid hbw
      clear hbw
      go_loopg [6] g.T.length (fun fu c wr => ∃ k : Nat, k + fu = g.T.length ∧ c = .int .i64 k ∧ Below w2.heap.size w2 wr)
      case atStart => exact ⟨0, by omega, rfl, HZ.out⟩
      case round =>
        obtain ⟨k, hk, rfl, hbw⟩ := hrel
        have x0 := bkeep hbw p0
        have x1 := bkeep hbw p1
        have x2 := bkeep hbw p2
        have x3 := bkeep hbw q0
        have x4 := bkeep hbw q1
        have x5 := bkeep hbw q2
        by_cases hlt : k < g.T.length
        · obtain ⟨b1, o1, rfl, d1⟩ := HP.out.ht k hlt
          obtain ⟨b2, o2, rfl, d2⟩ := HQ.out.ht k hlt
          have y1 := bkeep hbw d1
          have y2 := bkeep hbw d2
          have z1 : (k : Int) < (g.T.length : Int) := by omega
          have n1 := ne_false (g.T.getD k 0)
          clear d1 d2
          generalize g.T.getD k 0 = x at *
          go_wp2_with fail
          go_quiet (fail)
          go_wp2_with fail
          go_roundg (gk - 1)
          case measure => omega
          case rel => exact ⟨k + 1, by omega, by simp, bdrewN hbw _⟩
        · go_wp2_with fail
          clear x0 x1 x2 x3 x4 x5 hlt hk
          have HZ := Lib.hid hbw
          clear hbw
          go_loopg [7] g.A.length (fun fu c wr => ∃ k : Nat, k + fu = g.A.length ∧ c = .int .i64 k ∧ Below w2.heap.size w2 wr)
          case atStart => exact ⟨0, by omega, rfl, HZ.out⟩
          case round =>
            obtain ⟨k, hk, rfl, hbw⟩ := hrel
            have x0 := bkeep hbw p0
            have x1 := bkeep hbw p1
            have x2 := bkeep hbw p2
            have x3 := bkeep hbw q0
            have x4 := bkeep hbw q1
            have x5 := bkeep hbw q2
            by_cases hlt : k < g.A.length
            · obtain ⟨b1, o1, rfl, d1⟩ := HP.out.ha k hlt
              obtain ⟨b2, o2, rfl, d2⟩ := HQ.out.ha k hlt
              have y1 := bkeep hbw d1
              have y2 := bkeep hbw d2
              have z1 : (k : Int) < (g.A.length : Int) := by omega
              have n1 := ne_false (g.A.getD k 0)
              clear d1 d2
              generalize g.A.getD k 0 = x at *
              go_wp2_with fail
              go_quiet (fail)
              go_wp2_with fail
              go_roundg (gk - 1)
              case measure => omega
              case rel => exact ⟨k + 1, by omega, by simp, bdrewN hbw _⟩
            · go_wp2_with fail
              clear x0 x1 x2 x3 x4 x5 hlt hk
              go_ret
              exact ⟨rfl, HB.out.trans (hbw.mono HB.out.size)⟩

/-- small -/
def lit3 (ns nt na : Nat) : Bool := decide (ns ≤ 80 ∧ nt ≤ 400 ∧ na ≤ 400)
theorem lit3_spec {ns nt na : Nat} (h : lit3 ns nt na = true) : ns ≤ 80 ∧ nt ≤ 400 ∧ na ≤ 400 := of_decide_eq_true h

set_option maxRecDepth 100000 in
set_option maxHeartbeats 1000000 in
theorem light_ok (sa aa ta : Option Addr) (ns sc na ac nt tc : Nat) (w : World) (h1 : ns ≤ 9223372036854775807) (h2 : na ≤ 9223372036854775807) (h3 : nt ≤ 9223372036854775807) :
    Calls Try.prog 25 #[.agg #[.slice sa ns sc, .slice aa na ac, .slice ta nt tc]] w fun e w' => e = .returned (.bool (lit3 ns nt na)) ∧ Below w.heap.size w w' := by
  by_cases k1 : ns ≤ 80
  · by_cases k2 : nt ≤ 400
    · have E := Lib.hid (show lit3 ns nt na = decide ((na : Int) ≤ 400) by unfold lit3; simp [k1, k2]; omega)
      go_enter Try.func25, Try.ntmps25
      go_wp2_with fail
      go_ret
      exact ⟨by rw [E.out]; rfl, balloc _ _⟩
    · have E := Lib.hid (show lit3 ns nt na = false by unfold lit3; simp [k2])
      go_enter Try.func25, Try.ntmps25
      go_wp2_with fail
      go_ret
      exact ⟨by rw [E.out]; rfl, balloc _ _⟩
  · have E := Lib.hid (show lit3 ns nt na = false by unfold lit3; simp [k1])
    go_enter Try.func25, Try.ntmps25
    go_wp2_with fail
    go_ret
    exact ⟨by rw [E.out]; rfl, balloc _ _⟩
end Go.Proofs.Ytnlaonppgebpoaa
