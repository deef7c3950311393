/-
  (*intern.Table).find: it returns the slot at which the search ends.
-/
import Derived.Test.YtifbilmeecndgaaHash
import Derived.Test.YtifbilmeecndgaaPlain
namespace Go.Proofs.Ytifbilmeecndgaa
open Go.RowKit

def hashN (s : ByteArray) : Nat := (hashOf s).toNat

/-- The table's slots: numbers in a block of their own. -/
def slotCells (S : List Nat) : Array Value := (S.map (fun n : Nat => Value.int .i64 (n : Int))).toArray
theorem slotCells_get (S : List Nat) (p : Nat) (hp : p < S.length) : (slotCells S)[p]? = some (.int .i64 ((S.getD p 0 : Nat) : Int)) := by
  simp [slotCells, List.getD, hp]

theorem hashOf_bd (s : ByteArray) : 0 ≤ hashOf s ∧ hashOf s < 18446744073709551616 := by
  unfold hashOf
  have hm : 0 ≤ mix (hashTo s ((s.size + 7) / 8)) s.size ∧ mix (hashTo s ((s.size + 7) / 8)) s.size < 18446744073709551616 := wrap_u64_bd _
  generalize mix (hashTo s ((s.size + 7) / 8)) s.size = z at *
  show 0 ≤ IntKind.u64.wrap _ ∧ IntKind.u64.wrap _ < _
  exact wrap_u64_bd _
theorem ownsRow_text {w : World} {B : Nat} {tv : Value} {L : List ByteArray} (h : w.ownsRow B 9 1 tv L.length (L.map Value.string)) (i : Nat) (hi : i < L.length) :
    ∃ g cap, tv = .slice (some ⟨g, 0, none⟩) L.length cap ∧ L.length ≤ cap ∧ w.cell? ⟨g, i, none⟩ = some (.string (L.getD i ByteArray.empty)) := by
  rcases h.2 with ⟨rfl, h0⟩ | ⟨g, cap, cur, rfl, hb, hg, hn, hm, hs, ht⟩
  · omega
  · refine ⟨g, cap, rfl, hn, ?_⟩
    refine cell_of_block hg i _ ?_
    have : (cur.toList.take (L.length * 1))[i]? = some (.string (L.getD i ByteArray.empty)) := by
      rw [ht]; simp [List.getD, hi]
    rw [List.getElem?_take] at this
    split at this
    · simpa using this
    · cases this

theorem and_mask_u64 (x : Int) (m : Nat) (h0 : 0 ≤ x) (h1 : x < 18446744073709551616) (hm : m ≤ 62) : bits BinOp.and IntKind.u64 x ((2 ^ m : Nat) - 1) = x % (2 ^ m : Nat) := by
  obtain ⟨a, rfl⟩ := Int.eq_ofNat_of_zero_le h0
  have hp : 2 ^ m ≤ 2 ^ 62 := Nat.pow_le_pow_right (by omega) hm
  have hq : 0 < 2 ^ m := Nat.two_pow_pos m
  rw [show (((2 ^ m : Nat) : Int) - 1) = ((2 ^ m - 1 : Nat) : Int) by omega, u64_and_nat a _ (by omega) (by omega), Nat.and_two_pow_sub_one_eq_mod]
  exact Int.natCast_emod _ _
theorem and_mask_i64 (x : Nat) (m : Nat) (h1 : x < 9223372036854775808) (hm : m ≤ 62) : bits BinOp.and IntKind.i64 x ((2 ^ m : Nat) - 1) = ((x % 2 ^ m : Nat) : Int) := by
  have hp : 2 ^ m ≤ 2 ^ 62 := Nat.pow_le_pow_right (by omega) hm
  have hq : 0 < 2 ^ m := Nat.two_pow_pos m
  rw [show (((2 ^ m : Nat) : Int) - 1) = ((2 ^ m - 1 : Nat) : Int) by omega]
  have ho : ∀ z : Nat, z < 9223372036854775808 → BitVec.ofInt 64 (z : Int) = BitVec.ofNat 64 z := fun z _ => by
    apply BitVec.eq_of_toNat_eq; simp
  show IntKind.i64.wrap ((BitVec.ofInt 64 (x : Int) &&& BitVec.ofInt 64 ((2 ^ m - 1 : Nat) : Int)).toNat : Int) = _
  rw [ho x h1, ho _ (by omega), BitVec.toNat_and, BitVec.toNat_ofNat, BitVec.toNat_ofNat, Nat.mod_eq_of_lt (a := x) (by omega), Nat.mod_eq_of_lt (a := 2 ^ m - 1) (by omega), Nat.and_two_pow_sub_one_eq_mod]
  have := Nat.mod_lt x hq
  exact IntWalk.i64_in _ (by omega)

set_option maxHeartbeats 1000000 in
theorem find_any (B tb sb : Nat) (tv : Value) (L : List ByteArray) (S : List Nat) (k m : Nat) (s : ByteArray) (w : World) (hs : s.size ≤ 200)
    (hS : S.length = 2 ^ m) (hm : m ≤ 40) (hL : L.length ≤ 100000) (hf : Tab.Fine hashN L S k)
    (h1 : w.heap[tb]? = some (.cells #[tv, .slice (some ⟨sb, 0, none⟩) S.length S.length] 43 (0, 0)))
    (h2 : w.heap[sb]? = some (.cells (slotCells S) 3 (0, 0))) (h3 : w.ownsRow B 9 1 tv L.length (L.map Value.string)) :
    Calls Try.prog 21 #[.pointer (some ⟨tb, 0, none⟩), .string s] w fun e w' => e = .returned (.int .i64 (Tab.spot hashN L S s : Nat)) ∧ Below w.heap.size w w' := by
  have hn0 := hf.pos
  have hn40 : S.length ≤ 1099511627776 := by rw [hS]; exact Nat.pow_le_pow_right (by omega) hm
  have hstart : bits BinOp.and IntKind.u64 (hashOf s) ((S.length : Int) - 1) = ((hashN s % S.length : Nat) : Int) := by
    rw [hS, and_mask_u64 _ m (hashOf_bd s).1 (hashOf_bd s).2 (by omega)]
    rw [show hashOf s = ((hashN s : Nat) : Int) from (Int.toNat_of_nonneg (hashOf_bd s).1).symm]
    exact (Int.natCast_emod _ _).symm
  have hnext : ∀ p : Nat, p < S.length → bits BinOp.and IntKind.i64 ((p : Int) + 1) ((S.length : Int) - 1) = (((p + 1) % S.length : Nat) : Int) := by
    intro p hp
    have := and_mask_i64 (p + 1) m (by omega) (by omega)
    rw [hS]; rw [← this]; simp
  have hend := hf.ends s (hashN s % S.length) (Nat.mod_lt _ hf.pos)
  have hlt0 := Nat.mod_lt (hashN s) hf.pos
  have hfin : Tab.spot hashN L S s = Tab.probe L S s S.length (hashN s % S.length) := rfl
  rw [hfin]
  clear hfin hS
  generalize hashN s % S.length = p0 at *
  generalize hR : Tab.probe L S s S.length p0 = R
  have HR := Lib.hid hR
  have HN := Lib.hid hnext
  have HE := Lib.hid hend
  have HF := Lib.hid hf
  clear hR hnext hend hf
  obtain ⟨n, hn⟩ : ∃ n, n = S.length := ⟨_, rfl⟩
  rw [← hn] at hn0 hn40 hlt0 h1 hstart
  have H1 := Lib.hid hn
  clear hn
  have c0 : w.cell? ⟨tb, 0, none⟩ = some tv := cell_of_block h1 0 _ rfl
  have c1 : w.cell? ⟨tb, 1, none⟩ = some (.slice (some ⟨sb, 0, none⟩) n n) := cell_of_block h1 1 _ rfl
  have H2 := Lib.hid h2
  have H3 := Lib.hid h3
  clear h1 h2 h3
  go_enter Try.func21, Try.ntmps21
  go_wp2_with (go_at_call 23; refine (hash_any s _ hs).mono ?_; rintro e w1 ⟨rfl, hb1⟩)
  clear hstart
  go_loopg [6] n (fun f at' wr => ∃ p : Nat, p < n ∧ at' = .int .i64 p ∧ Tab.ends L S s f p ∧ Tab.probe L S s f p = R ∧ Below w.heap.size w wr)
  case atStart => exact ⟨p0, hlt0, rfl, by rw [H1.out]; exact HE.out, by rw [H1.out]; exact HR.out, hb1⟩
  case round =>
    obtain ⟨p, hp, rfl, he, hr, hb⟩ := hrel
    have d0 := bkeep hb c0
    have d1 := bkeep hb c1
    have HR' := Lib.hid hr
    have HE' := Lib.hid he
    clear hr he c0 c1
    have hS := H1.out
    have d2 : wr.cell? ⟨sb, p, none⟩ = some (.int .i64 ((S.getD p 0 : Nat) : Int)) := bkeep hb (cell_of_block H2.out p _ (slotCells_get S p (by omega)))
    clear hS
    have hvb := HF.out.bound p
    have hvl := HF.out.le
    generalize hv : S.getD p 0 = v at *
    have HV := Lib.hid hv
    clear hv
    by_cases hz : v = 0
    · subst hz
      go_wp2_with fail
      go_quiet (fail)
      go_wp2
      go_ret
      refine ⟨?_, bdrewN hb _⟩
      have h0 : Tab.hit L S s p = true := by unfold Tab.hit; rw [HV.out]; rfl
      have hr' := HR'.out
      have he' := HE'.out
      cases gk with
      | zero => exact he'.elim
      | succ f => rw [Tab.probe, if_pos h0] at hr'; rw [hr']; rfl
    · have hv1 : v - 1 < L.length := by omega
      obtain ⟨g, cap, rfl, hcap, ht⟩ := ownsRow_text H3.out (v - 1) hv1
      have d3 := bkeep hb ht
      clear ht
      have hvp : decide (0 < v) = true := by simp; omega
      have hnx := HN.out p (by rw [← H1.out]; exact hp)
      have hw : IntKind.i64.wrap ((v : Int) - 1) = ((v - 1 : Nat) : Int) := by rw [IntWalk.i64_in _ (by omega)]; omega
      have hv2 : ((v - 1 : Nat) : Int) < (L.length : Int) := by omega
      generalize hx : L.getD (v - 1) ByteArray.empty = x at *
      have HX := Lib.hid hx
      clear hx
      generalize hu : v - 1 = u at *
      have HU := Lib.hid hu
      clear hu
      by_cases hxs : x = s
      · subst hxs
        have hbt : (x.toList == x.toList) = true := by simp
        go_wp2_with fail
        go_quiet (fail)
        clear hw
        go_wp2
        go_ret
        refine ⟨?_, bdrewN hb _⟩
        have h0 : Tab.hit L S x p = true := by unfold Tab.hit; rw [HV.out, HU.out, HX.out]; simp
        have hr' := HR'.out
        have he' := HE'.out
        cases gk with
        | zero => exact he'.elim
        | succ f => rw [Tab.probe, if_pos h0] at hr'; rw [hr']; rfl
      · have hbf := str_ne hxs
        rw [← H1.out] at hnx
        have hq := Nat.mod_lt (p + 1) hn0
        go_wp2_with fail
        go_quiet (fail)
        clear hw
        go_wp2
        have h0 : ¬ Tab.hit L S s p = true := by unfold Tab.hit; rw [HV.out, HU.out, HX.out]; simp [hxs, hz]
        have hr' := HR'.out
        have he' := HE'.out
        cases gk with
        | zero => exact he'.elim
        | succ f =>
          rw [Tab.probe, if_neg h0] at hr'
          have he2 := he'.resolve_left h0
          go_roundg f
          case measure => omega
          case rel => exact ⟨(p + 1) % n, hq, rfl, by rw [H1.out]; exact he2, by rw [H1.out]; exact hr', bdrewN hb _⟩
end Go.Proofs.Ytifbilmeecndgaa
