/-
  edges.Right, Nodes, and the reference's: what they tell.
-/
import Derived.Test.YtlhpjfnfemebdaaRows
import Derived.Test.YtlhpjfnfemebdaaJBase
namespace Go.Proofs.Ytlhpjfnfemebdaa
open Go.RowKit
structure GVar (w : World) (B : Nat) (sa aa ta : Option Addr) (sc ac tc : Nat) (g : Gr) : Prop where
 c0 : w.cell? ⟨B, 0, none⟩ = some (.slice sa g.S.length sc)
 c1 : w.cell? ⟨B, 1, none⟩ = some (.slice aa g.A.length ac)
 c2 : w.cell? ⟨B, 2, none⟩ = some (.slice ta g.T.length tc)
 hs : ∀ j, j < g.S.length → ∃ b off, sa = some ⟨b, off, none⟩ ∧ w.cell? ⟨b, off + j, none⟩ = some (.int .i64 (g.S.getD j 0))
 ha : ∀ j, j < g.A.length → ∃ b off, aa = some ⟨b, off, none⟩ ∧ w.cell? ⟨b, off + j, none⟩ = some (.int .i64 (g.A.getD j 0))
 ht : ∀ j, j < g.T.length → ∃ b off, ta = some ⟨b, off, none⟩ ∧ w.cell? ⟨b, off + j, none⟩ = some (.int .i64 (g.T.getD j 0))
theorem GraphAt.var {w : World} {v : Value} {g : Gr} (h : GraphAt w v g) : ∃ sa aa ta sc ac tc, v = .agg #[.slice sa g.S.length sc, .slice aa g.A.length ac, .slice ta g.T.length tc] ∧
  GVar (w.alloc (.cells #[.slice sa g.S.length sc, .slice aa g.A.length ac, .slice ta g.T.length tc] 30)) w.heap.size sa aa ta sc ac tc g := by
 obtain ⟨⟨s, a, t, rfl, ⟨sa, sc, rfl, h1⟩, ⟨aa, ac, rfl, h2⟩, ⟨ta, tc, rfl, h3⟩⟩, h4, h5, h6⟩ := h
 refine ⟨sa, aa, ta, sc, ac, tc, rfl, cell_of_block (heap_alloc_new w _) 0 _ rfl, cell_of_block (heap_alloc_new w _) 1 _ rfl, cell_of_block (heap_alloc_new w _) 2 _ rfl, ?_, ?_, ?_⟩
 ·intro j hj; obtain ⟨b, off, e, hc⟩ := h1 j hj; exact ⟨b, off, e, bkeep (balloc w _) hc⟩
 ·intro j hj; obtain ⟨b, off, e, hc⟩ := h2 j hj; exact ⟨b, off, e, bkeep (balloc w _) hc⟩
 ·intro j hj; obtain ⟨b, off, e, hc⟩ := h3 j hj; exact ⟨b, off, e, bkeep (balloc w _) hc⟩
theorem GVar.below {w w' : World} {B : Nat} {sa aa ta : Option Addr} {sc ac tc : Nat} {g : Gr} (h : GVar w B sa aa ta sc ac tc g) (hb : Below w.heap.size w w') : GVar w' B sa aa ta sc ac tc g := by
 obtain ⟨c0, c1, c2, h1, h2, h3⟩ := h
 refine ⟨bkeep hb c0, bkeep hb c1, bkeep hb c2, ?_, ?_, ?_⟩
 ·intro j hj; obtain ⟨b, off, e, hc⟩ := h1 j hj; exact ⟨b, off, e, bkeep hb hc⟩
 ·intro j hj; obtain ⟨b, off, e, hc⟩ := h2 j hj; exact ⟨b, off, e, bkeep hb hc⟩
 ·intro j hj; obtain ⟨b, off, e, hc⟩ := h3 j hj; exact ⟨b, off, e, bkeep hb hc⟩
theorem ne_true {x y : Int} (h : x ≠ y) : (!x == y) = true := by simp [h]
theorem bne_true {x y : Int} (h : x ≠ y) : (x != y) = true := by simp [h]
theorem ne_false (x : Int) : (!x == x) = false := by simp
set_option maxRecDepth 100000 in
set_option maxHeartbeats 4000000 in
theorem right_ok (v : Value) (g : Gr) (w : World) (h : GraphAt w v g) :
  Calls Try.prog 72 #[v] w fun e w' => e = .returned (.bool (rightB g)) ∧ Below w.heap.size w w' := by
 have h4 := h.sS
 have h5 := h.sA
 have h6 := h.sT
 obtain ⟨sa, aa, ta, sc, ac, tc, rfl, hv⟩ := h.var
 have HB := Lib.hid (balloc w (.cells #[.slice sa g.S.length sc, .slice aa g.A.length ac, .slice ta g.T.length tc] 30))
 clear h
 go_enter Try.func72, Try.ntmps72
 go_wp2_with fail
 generalize w.alloc _ = w1 at *
 have HV := Lib.hid hv
 have c0 := hv.c0
 have c1 := hv.c1
 have c2 := hv.c2
 clear hv
 by_cases k1 : 0 < g.S.length
 ·obtain ⟨b, off, rfl, d0⟩ := HV.out.hs 0 k1
  obtain ⟨b', off', e, dn⟩ := HV.out.hs (g.S.length - 1) (by omega)
  cases e
  have b1 : (g.S.length : Int) - 1 < g.S.length := by omega
  have b2 : (0 : Int) ≤ (g.S.length : Int) - 1 := by omega
  have b4 : (0 : Int) < (g.S.length : Int) := by omega
  have b5 : decide ((g.S.length : Int) - 1 < 0) = false := by simp; omega
  have b6 : decide ((g.S.length : Int) < 1) = false := by simp; omega
  rw [Nat.add_zero] at d0
  by_cases k2 : g.S.getD 0 0 = 0
  ·rw [k2] at d0
   by_cases k3 : g.S.getD (g.S.length - 1) 0 = g.T.length
   ·rw [k3] at dn
    by_cases k4 : g.A.length = g.T.length
    ·rw [k4] at c1
     have n0 := ne_false 0
     have nt := ne_false (g.T.length : Int)
     have HK := Lib.hid (And.intro k2 (And.intro k3 k4))
     clear k2 k3 k4
     go_quiet (fail)
     clear d0 dn
     go_wp2_with fail
     obtain ⟨n, hn⟩ : ∃ n, g.S.length = n + 1 := ⟨g.S.length - 1, by omega⟩
     have Hn := Lib.hid hn
     have hnl : n + 1 ≤ g.S.length := by omega
     have hnu : g.S.length ≤ n + 1 := by omega
     have e1 : (g.S.length : Int) - 1 = (n : Int) := by omega
     rw [e1]
     clear e1 b1 b2 b4 b5 b6 n0 nt
     go_loopg [4, 41] n (fun fu _ c wr => ∃ k : Nat, k + fu = n ∧ c = .int .i64 k ∧ (∀ i, i < k → g.S.getD i 0 ≤ g.S.getD (i + 1) 0) ∧ Below w1.heap.size w1 wr)
     case atStart => exact ⟨0, by omega, rfl, fun i hi => by omega, bdrewN (Below.refl _ _) _⟩
     case round =>
      obtain ⟨k, hk, rfl, hall, hb⟩ := hrel
      have HA := Lib.hid hall
      have x0 := bkeep hb c0
      have x1 := bkeep hb c1
      have x2 := bkeep hb c2
      clear hall hn
      by_cases hlt : k < n
      ·obtain ⟨b1, o1, e, d0⟩ := HV.out.hs k (by omega)
       cases e
       obtain ⟨b1, o1, e, d1⟩ := HV.out.hs (k + 1) (by omega)
       cases e
       have y0 := bkeep hb d0
       have y1 := bkeep hb d1
       clear d0 d1
       have z1 : (k : Int) < (g.S.length : Int) := by omega
       have z2 : (k : Int) + 1 < (g.S.length : Int) := by omega
       have z3 : IntKind.i64.wrap ((k : Int) + 1) = ((k + 1 : Nat) : Int) := by rw [IntWalk.i64_in _ (by omega)]; simp
       by_cases hle : g.S.getD k 0 ≤ g.S.getD (k + 1) 0
       ·have hn1 : ∀ i, i < k + 1 → g.S.getD i 0 ≤ g.S.getD (i + 1) 0 := fun i hi => by
         by_cases hik : i = k
         ·rw [hik]; exact hle
         ·exact HA.out i (by omega)
        have HA1 := Lib.hid hn1
        have hd : decide (g.S.getD (k + 1) 0 < g.S.getD k 0) = false := decide_eq_false (by omega)
        clear hn1 hle
        generalize g.S.getD k 0 = s0 at *
        generalize g.S.getD (k + 1) 0 = s1 at *
        go_wp2_with fail
        go_quiet (fail)
        clear z3
        go_wp2_with fail
        go_roundg (gk - 1)
        case measure => omega
        case rel => exact ⟨k + 1, by omega, by simp, HA1.out, bdrewN hb _⟩
       ·have e := rightB_false (fun r => hle (r.mono k (by omega)) : ¬ Rt g)
        have E := Lib.hid e
        have hd : decide (g.S.getD (k + 1) 0 < g.S.getD k 0) = true := decide_eq_true (by omega)
        clear e hle
        generalize g.S.getD k 0 = s0 at *
        generalize g.S.getD (k + 1) 0 = s1 at *
        go_wp2_with fail
        go_quiet (fail)
        clear z3
        go_wp2_with fail
        go_ret
        exact ⟨by rw [E.out]; rfl, HB.out.trans ((bdrewN hb _).mono HB.out.size)⟩
      ·have hm : ∀ i, i + 1 < g.S.length → g.S.getD i 0 ≤ g.S.getD (i + 1) 0 := fun i hi => HA.out i (by have := Hn.out; omega)
       have HM := Lib.hid hm
       clear hm
       go_wp2_with fail
       obtain ⟨w2, rfl⟩ : ∃ z : World, z = wr := ⟨_, rfl⟩
       go_loopg [5, 6, 60] g.T.length (fun fu _ _ c wr => ∃ k : Nat, k + fu = g.T.length ∧ c = .int .i64 k ∧ (∀ i, i < k → 0 ≤ g.T.getD i 0 ∧ g.T.getD i 0 + 1 < g.S.length ∧ 0 ≤ g.A.getD i 0) ∧ w2 = wr)
       case atStart => exact ⟨0, by omega, rfl, fun i hi => by omega, rfl⟩
       case round =>
        clear hk hlt
        obtain ⟨k, hk, rfl, hall, rfl⟩ := hrel
        have HA2 := Lib.hid hall
        clear hall
        have hlA := HK.out.2.2
        by_cases hlt : k < g.T.length
        ·obtain ⟨bt, ot, rfl, dt⟩ := HV.out.ht k hlt
         obtain ⟨ba, oa, rfl, da⟩ := HV.out.ha k (by omega)
         have yt := bkeep hb dt
         have ya := bkeep hb da
         clear dt da hlA
         have z1 : (k : Int) < (g.T.length : Int) := by omega
         by_cases t1 : g.T.getD k 0 < 0
         ·have e := rightB_false (fun r => by have := (r.tos k hlt).1; omega : ¬ Rt g)
          have E := Lib.hid e
          clear e
          generalize g.T.getD k 0 = tk at *
          generalize g.A.getD k 0 = ak at *
          have f1 : decide (tk < 0) = true := decide_eq_true t1
          go_wp2_with fail
          go_ret
          exact ⟨by rw [E.out]; rfl, HB.out.trans (hb.mono HB.out.size)⟩
         ·have f1 : decide (g.T.getD k 0 < 0) = false := decide_eq_false t1
          by_cases t2 : (n : Int) ≤ g.T.getD k 0
          ·have e := rightB_false (fun r => by have := (r.tos k hlt).2.1; omega : ¬ Rt g)
           have E := Lib.hid e
           clear e
           have f2 : decide ((n : Int) ≤ g.T.getD k 0) = true := decide_eq_true t2
           generalize g.T.getD k 0 = tk at *
           generalize g.A.getD k 0 = ak at *
           go_wp2_with fail
           go_ret
           exact ⟨by rw [E.out]; rfl, HB.out.trans (hb.mono HB.out.size)⟩
          ·have f2 : decide ((n : Int) ≤ g.T.getD k 0) = false := decide_eq_false t2
           by_cases t3 : g.A.getD k 0 < 0
           ·have e := rightB_false (fun r => by have := (r.tos k hlt).2.2; omega : ¬ Rt g)
            have E := Lib.hid e
            clear e
            have f3 : decide (g.A.getD k 0 < 0) = true := decide_eq_true t3
            generalize g.T.getD k 0 = tk at *
            generalize g.A.getD k 0 = ak at *
            go_wp2_with fail
            go_ret
            exact ⟨by rw [E.out]; rfl, HB.out.trans (hb.mono HB.out.size)⟩
           ·have f3 : decide (g.A.getD k 0 < 0) = false := decide_eq_false t3
            have hn3 : ∀ i, i < k + 1 → 0 ≤ g.T.getD i 0 ∧ g.T.getD i 0 + 1 < g.S.length ∧ 0 ≤ g.A.getD i 0 := fun i hi => by
             by_cases hik : i = k
             ·rw [hik]; omega
             ·exact HA2.out i (by omega)
            have HA3 := Lib.hid hn3
            clear hn3
            generalize g.T.getD k 0 = tk at *
            generalize g.A.getD k 0 = ak at *
            go_wp2_with fail
            go_roundg (gk - 1)
            case measure => omega
            case rel => exact ⟨k + 1, by omega, by simp, HA3.out, rfl⟩
        ·have e := (rightB_iff g).2 ⟨k1, HK.out.1, HK.out.2.1, HK.out.2.2, HM.out, fun i hi => HA2.out i (by omega)⟩
         have E := Lib.hid e
         clear e hlA
         go_wp2_with fail
         go_ret
         exact ⟨by rw [E.out]; rfl, HB.out.trans (hb.mono HB.out.size)⟩
    ·have e := rightB_false (fun r => k4 r.lens : ¬ Rt g)
     have E := Lib.hid e
     clear e
     have n0 := ne_false 0
     have nt := ne_false (g.T.length : Int)
     have na := ne_true (show (g.A.length : Int) ≠ g.T.length by omega)
     go_quiet (fail)
     go_wp2
     go_ret
     exact ⟨by rw [E.out]; rfl, bdrewN HB.out _⟩
   ·have e := rightB_false (fun r => k3 r.last : ¬ Rt g)
    have E := Lib.hid e
    clear e
    have n0 := ne_false 0
    have nt := ne_true k3
    have nt2 := bne_true k3
    clear k3
    generalize g.S.getD (g.S.length - 1) 0 = xn at *
    go_quiet (fail)
    go_wp2
    go_ret
    exact ⟨by rw [E.out]; rfl, bdrewN HB.out _⟩
  ·have e := rightB_false (fun r => k2 r.first : ¬ Rt g)
   have E := Lib.hid e
   clear e
   have n0 := ne_true k2
   have n02 := bne_true k2
   clear k2
   generalize g.S.getD 0 0 = x0 at *
   go_quiet (fail)
   go_wp2
   go_ret
   exact ⟨by rw [E.out]; rfl, bdrewN HB.out _⟩
 ·have e : rightB g = false := rightB_false (fun r => k1 r.ne)
  have E := Lib.hid e
  have e0 : g.S.length = 0 := by omega
  rw [e0] at *
  clear k1 e
  go_quiet (fail)
  go_wp2
  go_ret
  exact ⟨by rw [E.out]; rfl, bdrewN HB.out _⟩
set_option maxRecDepth 100000 in
set_option maxHeartbeats 4000000 in
theorem rright_ok (v : Value) (g : Gr) (w : World) (h : GraphAt w v g) :
  Calls Try.prog 50 #[v] w fun e w' => e = .returned (.bool (rightB g)) ∧ Below w.heap.size w w' := by
 have h4 := h.sS
 have h5 := h.sA
 have h6 := h.sT
 obtain ⟨sa, aa, ta, sc, ac, tc, rfl, hv⟩ := h.var
 have HB := Lib.hid (balloc w (.cells #[.slice sa g.S.length sc, .slice aa g.A.length ac, .slice ta g.T.length tc] 30))
 clear h
 go_enter Try.func50, Try.ntmps50
 go_wp2_with fail
 generalize w.alloc _ = w1 at *
 have HV := Lib.hid hv
 have c0 := hv.c0
 have c1 := hv.c1
 have c2 := hv.c2
 clear hv
 by_cases k1 : 0 < g.S.length
 ·obtain ⟨b, off, rfl, d0⟩ := HV.out.hs 0 k1
  obtain ⟨b', off', e, dn⟩ := HV.out.hs (g.S.length - 1) (by omega)
  cases e
  have b1 : (g.S.length : Int) - 1 < g.S.length := by omega
  have b2 : (0 : Int) ≤ (g.S.length : Int) - 1 := by omega
  have b4 : (0 : Int) < (g.S.length : Int) := by omega
  have b5 : decide ((g.S.length : Int) - 1 < 0) = false := by simp; omega
  have b6 : decide ((g.S.length : Int) < 1) = false := by simp; omega
  rw [Nat.add_zero] at d0
  by_cases k2 : g.S.getD 0 0 = 0
  ·rw [k2] at d0
   by_cases k3 : g.S.getD (g.S.length - 1) 0 = g.T.length
   ·rw [k3] at dn
    by_cases k4 : g.A.length = g.T.length
    ·rw [k4] at c1
     have n0 := ne_false 0
     have nt := ne_false (g.T.length : Int)
     have HK := Lib.hid (And.intro k2 (And.intro k3 k4))
     clear k2 k3 k4
     go_quiet (fail)
     clear d0 dn
     go_wp2_with fail
     obtain ⟨n, hn⟩ : ∃ n, g.S.length = n + 1 := ⟨g.S.length - 1, by omega⟩
     have Hn := Lib.hid hn
     have hnl : n + 1 ≤ g.S.length := by omega
     have hnu : g.S.length ≤ n + 1 := by omega
     have e1 : (g.S.length : Int) - 1 = (n : Int) := by omega
     rw [e1]
     clear e1 b1 b2 b4 b5 b6 n0 nt
     go_loopg [4] n (fun fu c wr => ∃ k : Nat, k + fu = n ∧ c = .int .i64 k ∧ (∀ i, i < k → g.S.getD i 0 ≤ g.S.getD (i + 1) 0) ∧ Below w1.heap.size w1 wr)
     case atStart => exact ⟨0, by omega, rfl, fun i hi => by omega, bdrewN (Below.refl _ _) _⟩
     case round =>
      obtain ⟨k, hk, rfl, hall, hb⟩ := hrel
      have HA := Lib.hid hall
      have x0 := bkeep hb c0
      have x1 := bkeep hb c1
      have x2 := bkeep hb c2
      clear hall hn
      by_cases hlt : k < n
      ·obtain ⟨b1, o1, e, d0⟩ := HV.out.hs k (by omega)
       cases e
       obtain ⟨b1, o1, e, d1⟩ := HV.out.hs (k + 1) (by omega)
       cases e
       have y0 := bkeep hb d0
       have y1 := bkeep hb d1
       clear d0 d1
       have z1 : (k : Int) < (g.S.length : Int) := by omega
       have z2 : (k : Int) + 1 < (g.S.length : Int) := by omega
       have z3 : IntKind.i64.wrap ((k : Int) + 1) = ((k + 1 : Nat) : Int) := by rw [IntWalk.i64_in _ (by omega)]; simp
       by_cases hle : g.S.getD k 0 ≤ g.S.getD (k + 1) 0
       ·have hn1 : ∀ i, i < k + 1 → g.S.getD i 0 ≤ g.S.getD (i + 1) 0 := fun i hi => by
         by_cases hik : i = k
         ·rw [hik]; exact hle
         ·exact HA.out i (by omega)
        have HA1 := Lib.hid hn1
        have hd : decide (g.S.getD (k + 1) 0 < g.S.getD k 0) = false := decide_eq_false (by omega)
        clear hn1 hle
        generalize g.S.getD k 0 = s0 at *
        generalize g.S.getD (k + 1) 0 = s1 at *
        go_wp2_with fail
        go_quiet (fail)
        clear z3
        go_wp2_with fail
        go_roundg (gk - 1)
        case measure => omega
        case rel => exact ⟨k + 1, by omega, by simp, HA1.out, bdrewN hb _⟩
       ·have e := rightB_false (fun r => hle (r.mono k (by omega)) : ¬ Rt g)
        have E := Lib.hid e
        have hd : decide (g.S.getD (k + 1) 0 < g.S.getD k 0) = true := decide_eq_true (by omega)
        clear e hle
        generalize g.S.getD k 0 = s0 at *
        generalize g.S.getD (k + 1) 0 = s1 at *
        go_wp2_with fail
        go_quiet (fail)
        clear z3
        go_wp2_with fail
        go_ret
        exact ⟨by rw [E.out]; rfl, HB.out.trans ((bdrewN hb _).mono HB.out.size)⟩
      ·have hm : ∀ i, i + 1 < g.S.length → g.S.getD i 0 ≤ g.S.getD (i + 1) 0 := fun i hi => HA.out i (by have := Hn.out; omega)
       have HM := Lib.hid hm
       clear hm
       go_wp2_with fail
       obtain ⟨w2, rfl⟩ : ∃ z : World, z = wr := ⟨_, rfl⟩
       go_loopg [5] g.T.length (fun fu c wr => ∃ k : Nat, k + fu = g.T.length ∧ c = .int .i64 k ∧ (∀ i, i < k → 0 ≤ g.T.getD i 0 ∧ g.T.getD i 0 + 1 < g.S.length ∧ 0 ≤ g.A.getD i 0) ∧ w2 = wr)
       case atStart => exact ⟨0, by omega, rfl, fun i hi => by omega, rfl⟩
       case round =>
        clear hk hlt
        obtain ⟨k, hk, rfl, hall, rfl⟩ := hrel
        have HA2 := Lib.hid hall
        clear hall
        have hlA := HK.out.2.2
        by_cases hlt : k < g.T.length
        ·obtain ⟨bt, ot, rfl, dt⟩ := HV.out.ht k hlt
         obtain ⟨ba, oa, rfl, da⟩ := HV.out.ha k (by omega)
         have yt := bkeep hb dt
         have ya := bkeep hb da
         clear dt da hlA
         have z1 : (k : Int) < (g.T.length : Int) := by omega
         by_cases t1 : g.T.getD k 0 < 0
         ·have e := rightB_false (fun r => by have := (r.tos k hlt).1; omega : ¬ Rt g)
          have E := Lib.hid e
          clear e
          generalize g.T.getD k 0 = tk at *
          generalize g.A.getD k 0 = ak at *
          have f1 : decide (tk < 0) = true := decide_eq_true t1
          go_wp2_with fail
          go_ret
          exact ⟨by rw [E.out]; rfl, HB.out.trans (hb.mono HB.out.size)⟩
         ·have f1 : decide (g.T.getD k 0 < 0) = false := decide_eq_false t1
          by_cases t2 : (n : Int) ≤ g.T.getD k 0
          ·have e := rightB_false (fun r => by have := (r.tos k hlt).2.1; omega : ¬ Rt g)
           have E := Lib.hid e
           clear e
           have f2 : decide ((n : Int) ≤ g.T.getD k 0) = true := decide_eq_true t2
           generalize g.T.getD k 0 = tk at *
           generalize g.A.getD k 0 = ak at *
           go_wp2_with fail
           go_ret
           exact ⟨by rw [E.out]; rfl, HB.out.trans (hb.mono HB.out.size)⟩
          ·have f2 : decide ((n : Int) ≤ g.T.getD k 0) = false := decide_eq_false t2
           by_cases t3 : g.A.getD k 0 < 0
           ·have e := rightB_false (fun r => by have := (r.tos k hlt).2.2; omega : ¬ Rt g)
            have E := Lib.hid e
            clear e
            have f3 : decide (g.A.getD k 0 < 0) = true := decide_eq_true t3
            generalize g.T.getD k 0 = tk at *
            generalize g.A.getD k 0 = ak at *
            go_wp2_with fail
            go_ret
            exact ⟨by rw [E.out]; rfl, HB.out.trans (hb.mono HB.out.size)⟩
           ·have f3 : decide (g.A.getD k 0 < 0) = false := decide_eq_false t3
            have hn3 : ∀ i, i < k + 1 → 0 ≤ g.T.getD i 0 ∧ g.T.getD i 0 + 1 < g.S.length ∧ 0 ≤ g.A.getD i 0 := fun i hi => by
             by_cases hik : i = k
             ·rw [hik]; omega
             ·exact HA2.out i (by omega)
            have HA3 := Lib.hid hn3
            clear hn3
            generalize g.T.getD k 0 = tk at *
            generalize g.A.getD k 0 = ak at *
            go_wp2_with fail
            go_roundg (gk - 1)
            case measure => omega
            case rel => exact ⟨k + 1, by omega, by simp, HA3.out, rfl⟩
        ·have e := (rightB_iff g).2 ⟨k1, HK.out.1, HK.out.2.1, HK.out.2.2, HM.out, fun i hi => HA2.out i (by omega)⟩
         have E := Lib.hid e
         clear e hlA
         go_wp2_with fail
         go_ret
         exact ⟨by rw [E.out]; rfl, HB.out.trans (hb.mono HB.out.size)⟩
    ·have e := rightB_false (fun r => k4 r.lens : ¬ Rt g)
     have E := Lib.hid e
     clear e
     have n0 := ne_false 0
     have nt := ne_false (g.T.length : Int)
     have na := ne_true (show (g.A.length : Int) ≠ g.T.length by omega)
     go_quiet (fail)
     go_wp2
     go_ret
     exact ⟨by rw [E.out]; rfl, bdrewN HB.out _⟩
   ·have e := rightB_false (fun r => k3 r.last : ¬ Rt g)
    have E := Lib.hid e
    clear e
    have n0 := ne_false 0
    have nt := ne_true k3
    have nt2 := bne_true k3
    clear k3
    generalize g.S.getD (g.S.length - 1) 0 = xn at *
    go_quiet (fail)
    go_wp2
    go_ret
    exact ⟨by rw [E.out]; rfl, bdrewN HB.out _⟩
  ·have e := rightB_false (fun r => k2 r.first : ¬ Rt g)
   have E := Lib.hid e
   clear e
   have n0 := ne_true k2
   have n02 := bne_true k2
   clear k2
   generalize g.S.getD 0 0 = x0 at *
   go_quiet (fail)
   go_wp2
   go_ret
   exact ⟨by rw [E.out]; rfl, bdrewN HB.out _⟩
 ·have e : rightB g = false := rightB_false (fun r => k1 r.ne)
  have E := Lib.hid e
  have e0 : g.S.length = 0 := by omega
  rw [e0] at *
  clear k1 e
  go_quiet (fail)
  go_wp2
  go_ret
  exact ⟨by rw [E.out]; rfl, bdrewN HB.out _⟩
def nodesN (g : Gr) : Nat := if rightB g = true then g.S.length - 1 else 0
theorem nodesN_right {g : Gr} (h : Rt g) : nodesN g = g.S.length - 1 := by unfold nodesN; rw [if_pos ((rightB_iff g).2 h)]
theorem nodesN_not {g : Gr} (h : rightB g = false) : nodesN g = 0 := by unfold nodesN; rw [h]; rfl
set_option maxRecDepth 100000 in
set_option maxHeartbeats 1000000 in
theorem nodes_ok (v : Value) (g : Gr) (w : World) (h : GraphAt w v g) :
  Calls Try.prog 48 #[v] w fun e w' => e = .returned (.int .i64 (nodesN g : Nat)) ∧ Below w.heap.size w w' := by
 have h4 := h.sS
 obtain ⟨sa, aa, ta, sc, ac, tc, rfl, hv⟩ := h.var
 have HB := Lib.hid (balloc w (.cells #[.slice sa g.S.length sc, .slice aa g.A.length ac, .slice ta g.T.length tc] 30))
 have HR := Lib.hid (right_ok _ g _ (h.below HB.out))
 clear h
 cases hr : rightB g
 ·have e := nodesN_not hr
  rw [hr] at HR
  have E := Lib.hid e
  clear e hr
  go_enter Try.func48, Try.ntmps48
  go_wp2_with (first | (go_at_call 72; refine HR.out.mono ?_; rintro e w2 ⟨rfl, hb⟩))
  go_ret
  exact ⟨by rw [E.out]; rfl, HB.out.trans (hb.mono HB.out.size)⟩
 ·have hrt := (rightB_iff g).1 hr
  have e := nodesN_right hrt
  have k1 := hrt.ne
  have c0 := hv.c0
  rw [hr] at HR
  have E := Lib.hid e
  clear e hr hrt hv
  go_enter Try.func48, Try.ntmps48
  go_wp2_with (first | (go_at_call 72; refine HR.out.mono ?_; rintro e w2 ⟨rfl, hb⟩; have d0 := bkeep hb c0))
  go_ret
  refine ⟨?_, HB.out.trans (hb.mono HB.out.size)⟩
  rw [E.out, show ((g.S.length - 1 : Nat) : Int) = (g.S.length : Int) - 1 by omega]; rfl
set_option maxRecDepth 100000 in
set_option maxHeartbeats 1000000 in
theorem rnodes_ok (v : Value) (g : Gr) (w : World) (h : GraphAt w v g) :
  Calls Try.prog 55 #[v] w fun e w' => e = .returned (.int .i64 (nodesN g : Nat)) ∧ Below w.heap.size w w' := by
 have h4 := h.sS
 obtain ⟨sa, aa, ta, sc, ac, tc, rfl, hv⟩ := h.var
 have HB := Lib.hid (balloc w (.cells #[.slice sa g.S.length sc, .slice aa g.A.length ac, .slice ta g.T.length tc] 30))
 have HR := Lib.hid (rright_ok _ g _ (h.below HB.out))
 clear h
 cases hr : rightB g
 ·have e := nodesN_not hr
  rw [hr] at HR
  have E := Lib.hid e
  clear e hr
  go_enter Try.func55, Try.ntmps55
  go_wp2_with (first | (go_at_call 50; refine HR.out.mono ?_; rintro e w2 ⟨rfl, hb⟩))
  go_ret
  exact ⟨by rw [E.out]; rfl, HB.out.trans (hb.mono HB.out.size)⟩
 ·have hrt := (rightB_iff g).1 hr
  have e := nodesN_right hrt
  have k1 := hrt.ne
  have c0 := hv.c0
  rw [hr] at HR
  have E := Lib.hid e
  clear e hr hrt hv
  go_enter Try.func55, Try.ntmps55
  go_wp2_with (first | (go_at_call 50; refine HR.out.mono ?_; rintro e w2 ⟨rfl, hb⟩; have d0 := bkeep hb c0))
  go_ret
  refine ⟨?_, HB.out.trans (hb.mono HB.out.size)⟩
  rw [E.out, show ((g.S.length - 1 : Nat) : Int) = (g.S.length : Int) - 1 by omega]; rfl
end Go.Proofs.Ytlhpjfnfemebdaa
