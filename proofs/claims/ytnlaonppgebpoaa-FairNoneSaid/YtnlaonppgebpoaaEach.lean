/-
  edges.each: it hands on each edge to whatever closure.
-/
import Derived.Test.YtnlaonppgebpoaaRight
import Derived.Test.YtnlaonppgebpoaaBase
import Derived.Shelf.Abstract
namespace Go.Proofs.Ytnlaonppgebpoaa
open Go.RowKit

set_option maxRecDepth 100000 in
set_option maxHeartbeats 4000000 in
theorem each_ok {g : Gr} {w : World} {sa aa ta : Option Addr} {sc ac tc : Nat} (hR : Rt g) (hS : g.S.length ≤ 1000000) (hT : g.T.length ≤ 1000000) (N : Nat) (hE : Enters Try.prog N) (caps : Array Value)
    (a m : Nat) (b : Int) (hb : b = (a : Int) + (m : Int)) (hab : a + m < g.S.length) (I : List Ed → World → Prop)
    (hv : ∀ pre w', I pre w' → GVar w' w.heap.size sa aa ta sc ac tc g)
    (h0 : I [] (w.alloc (.cells #[.slice sa g.S.length sc, .slice aa g.A.length ac, .slice ta g.T.length tc] 26)))
    (hd : ∀ pre w', I pre w' → I pre w'.drew)
    (hs : ∀ pre i k w', I pre w' → a ≤ i → i < a + m → st g i ≤ k → k < st g (i + 1) → pre.length < g.T.length →
      Calls Try.prog N (#[.agg #[.int .i64 (i : Nat), .int .i64 (g.A.getD k 0), .int .i64 (g.T.getD k 0)]] ++ caps) w' fun e w'' => e = .returned (.tuple #[]) ∧ I (pre ++ [edge g i k]) w'') :
    Calls Try.prog 73 #[.agg #[.slice sa g.S.length sc, .slice aa g.A.length ac, .slice ta g.T.length tc], .int .i64 (a : Nat), .int .i64 b, .func (.func N) #[] caps] w
      fun e w' => e = .returned (.tuple #[]) ∧ I (span g a m) w' := by
  have HR := Lib.hid hR
  have HV := Lib.hid hv
  have H0 := Lib.hid h0
  have HD := Lib.hid hd
  have HS := Lib.hid hs
  have hE' : ∀ (args : Array Value) (w : World), (callFunc N args).run Try.prog w = .ok (.enter N args) w := hE
  have hb1 : b ≤ (a : Int) + (m : Int) := by omega
  have hb2 : (a : Int) + (m : Int) ≤ b := by omega
  clear hR hv h0 hd hs hE hb
  go_enter Try.func73, Try.ntmps73
  go_wp2_with fail
  go_loopg [8] m (fun fu i wr => ∃ j : Nat, j + fu = m ∧ i = .int .i64 (a + j : Nat) ∧ I (span g a j) wr)
  case atStart => exact ⟨0, by omega, rfl, H0.out⟩
  case round =>
    obtain ⟨j, hj, rfl, hI⟩ := hrel
    by_cases hlt : j < m
    · have hv1 := HV.out _ _ hI
      have c0 := hv1.c0
      obtain ⟨bs, os, rfl, s0⟩ := hv1.hs (a + j) (by omega)
      rw [HR.out.st (by omega)] at s0
      have hsl := HR.out.stLe (i := a + j) (j := a + j + 1) (by omega) (by omega)
      have hst := HR.out.stTop (i := a + j + 1) (by omega)
      have hI0 := Lib.hid hI
      have hjb : (a : Int) + (j : Int) < b := by omega
      clear hv1 hI
      go_wp2_with fail
      clear hjb
      have hpl : (span g a j).length = st g (a + j) - st g a := span_len HR.out a j (by omega)
      generalize hij : a + j = i at *
      have HIJ := Lib.hid hij
      have hi1 : i + 1 < g.S.length := by omega
      have hai : a ≤ i := by omega
      have him : i < a + m := by omega
      have hsa : st g a ≤ st g i := HR.out.stLe hai (by omega)
      clear hij s0 c0
      obtain ⟨wr1, rfl⟩ : ∃ z : World, z = wr := ⟨_, rfl⟩
      obtain ⟨gk', rfl⟩ : ∃ z : Nat, z = gk := ⟨_, rfl⟩
      obtain ⟨len, hlen⟩ : ∃ n : Nat, st g (i + 1) = st g i + n := ⟨st g (i + 1) - st g i, by omega⟩
      go_loopg [9] len (fun fu c wr => ∃ r : Nat, r + fu = len ∧ c = .int .i64 (st g i + r : Nat) ∧ I (span g a j ++ edsN g i r) wr)
      case atStart => exact ⟨0, by omega, rfl, by simpa [edsN] using hI0.out⟩
      case round =>
        clear hI0
        obtain ⟨r, hr, rfl, hI⟩ := hrel
        have hv1 := HV.out _ _ hI
        have c0 := hv1.c0
        obtain ⟨b1, o1, e, s1⟩ := hv1.hs (i + 1) hi1
        cases e
        rw [HR.out.st hi1, hlen] at s1
        have e1 : IntKind.i64.wrap ((i : Int) + 1) = ((i + 1 : Nat) : Int) := by rw [IntWalk.i64_in _ (by omega)]; simp
        by_cases hlt2 : r < len
        · have c1 := hv1.c1
          have c2 := hv1.c2
          generalize hk : st g i + r = k at *
          have hkT : k < g.T.length := by omega
          have hkA : k < g.A.length := by rw [HR.out.lens]; exact hkT
          obtain ⟨ba, oa, rfl, a0⟩ := hv1.ha k hkA
          obtain ⟨bt, ot, rfl, t0⟩ := hv1.ht k hkT
          have HK := Lib.hid (HS.out _ i k _ (HD.out _ _ hI) hai him (by omega) (by omega) (by rw [List.length_append, edsN_len, hpl]; omega))
          rw [List.append_assoc] at HK
          have hnext : edsN g i r ++ [edge g i k] = edsN g i (r + 1) := by rw [edsN_succ, hk]
          rw [hnext] at HK
          have HKK := Lib.hid hk
          have b3 : (k : Int) < (st g i : Int) + (len : Int) := by omega
          have b1 : (k : Int) < (g.A.length : Int) := by omega
          have b2 : (k : Int) < (g.T.length : Int) := by omega
          clear hv1 hI hk hnext
          generalize g.A.getD k 0 = xa at *
          generalize g.T.getD k 0 = xt at *
          go_wp2_with fail
          refine region_tail 13 (by kernel_rfl) (by kernel_rfl) ?_
          simp only [List.take_succ_cons, List.take_zero, List.drop_succ_cons, List.drop_zero]
          repeat still_step
          refine wpStill_nil ?_
          clear e1
          go_wp2_with (go_at_fn N; refine HK.out.mono ?_; rintro e w' ⟨rfl, hI2⟩)
          go_roundg (gk - 1)
          case measure => omega
          case rel => exact ⟨r + 1, by omega, by simp; have := HKK.out; omega, hI2⟩
        · obtain rfl : gk = 0 := by omega
          obtain rfl : r = len := by omega
          have hnx : span g a j ++ edsN g i r = span g a (j + 1) := by
            rw [span_succ, HIJ.out, eds]
            have : st g (i + 1) - st g i = r := by omega
            rw [this]
          rw [hnx] at hI
          have HI := Lib.hid hI
          clear hI hv1
          go_wp2_with fail
          go_roundg (gk' - 1)
          case measure => omega
          case rel => exact ⟨j + 1, by omega, by simp; have := HIJ.out; omega, HI.out⟩
    · obtain rfl : gk = 0 := by omega
      obtain rfl : j = m := by omega
      have HI := Lib.hid hI
      clear hI
      go_wp2_with fail
      go_end0
      exact ⟨rfl, HI.out⟩
end Go.Proofs.Ytnlaonppgebpoaa
