/-
  The walks of InternApart and InternPlays.
-/
import Derived.Test.YtifbilmeecndgaaStrs
namespace Go.Proofs.Ytifbilmeecndgaa
open Go.RowKit

/-- Two tables with the same texts, made since w0, that share nothing. -/
def Twins (w0 w : World) (a b : Nat) (La Lb : List ByteArray) : Prop :=
  Below w0.heap.size w0 w ∧ ∃ fa fb, TabOk w a La fa ∧ TabOk w b Lb fb ∧ (∀ k, fa k → w0.heap.size ≤ k ∧ ¬ fb k) ∧ ∀ k, fb k → w0.heap.size ≤ k

theorem Twins.below {w0 w w' : World} {a b : Nat} {La Lb : List ByteArray} (h : Twins w0 w a b La Lb) (hb : Below w.heap.size w w') : Twins w0 w' a b La Lb :=
  let ⟨h1, fa, fb, h2, h3, h4, h5⟩ := h
  ⟨h1.trans (hb.mono h1.size), fa, fb, h2.below hb, h3.below hb, h4, h5⟩
theorem Twins.swap {w0 w : World} {a b : Nat} {La Lb : List ByteArray} (h : Twins w0 w a b La Lb) : Twins w0 w b a Lb La :=
  let ⟨h1, fa, fb, h2, h3, h4, h5⟩ := h
  ⟨h1, fb, fa, h3, h2, fun k hk => ⟨h5 k hk, fun hf => (h4 k hf).2 hk⟩, fun k hk => (h4 k hk).1⟩

theorem putT {w0 w : World} {a b : Nat} {La Lb : List ByteArray} (h : Twins w0 w a b La Lb) (s : ByteArray) (hs : s.size ≤ 200) (hL : La.length < 99999) :
    Calls Try.prog 10 #[.pointer (some ⟨a, 0, none⟩), .string s] w fun e w' => e = .returned (.tuple #[.int .i64 (idx s La : Nat), .bool (isNew s La)]) ∧ Twins w0 w' a b (putL La s) Lb := by
  obtain ⟨h1, fa, fb, h2, h3, h4, h5⟩ := h
  refine (put_ok h2 s hs hL).mono ?_
  rintro e w' ⟨rfl, hF, f', hT, hk⟩
  refine ⟨rfl, h1.trans (hF.below (fun k hf => (h4 k hf).1) h1.size), f', fb, hT, h3.kept hF (fun k hb ha => (h4 k ha).2 hb), ?_, h5⟩
  intro k hf'
  rcases hk k hf' with hf | hge
  · exact h4 k hf
  · exact ⟨Nat.le_trans h1.size hge, fun hb => by have := h3.lt k hb; omega⟩
theorem putT2 {w0 w : World} {a b : Nat} {La Lb : List ByteArray} (h : Twins w0 w a b La Lb) (s : ByteArray) (hs : s.size ≤ 200) (hL : Lb.length < 99999) :
    Calls Try.prog 10 #[.pointer (some ⟨b, 0, none⟩), .string s] w fun e w' => e = .returned (.tuple #[.int .i64 (idx s Lb : Nat), .bool (isNew s Lb)]) ∧ Twins w0 w' a b La (putL Lb s) :=
  (putT h.swap s hs hL).mono fun _ _ ⟨e, hT⟩ => ⟨e, hT.swap⟩
theorem getT {w0 w : World} {a b : Nat} {La Lb : List ByteArray} (h : Twins w0 w a b La Lb) (s : ByteArray) (hs : s.size ≤ 200) :
    Calls Try.prog 12 #[.pointer (some ⟨a, 0, none⟩), .string s] w fun e w' => e = .returned (.tuple #[.int .i64 (getN s La : Nat), .bool (isIn s La)]) ∧ Twins w0 w' a b La Lb := by
  obtain ⟨h1, fa, fb, h2, h3, h4, h5⟩ := id h
  refine (get_ok h2 s hs).mono ?_
  rintro e w' ⟨rfl, hb⟩
  exact ⟨rfl, h.below hb⟩
theorem getT2 {w0 w : World} {a b : Nat} {La Lb : List ByteArray} (h : Twins w0 w a b La Lb) (s : ByteArray) (hs : s.size ≤ 200) :
    Calls Try.prog 12 #[.pointer (some ⟨b, 0, none⟩), .string s] w fun e w' => e = .returned (.tuple #[.int .i64 (getN s Lb : Nat), .bool (isIn s Lb)]) ∧ Twins w0 w' a b La Lb :=
  (getT h.swap s hs).mono fun _ _ ⟨e, hT⟩ => ⟨e, hT.swap⟩
theorem newT {w0 w : World} {a : Nat} {La : List ByteArray} (h : TabNew w0 w a La) : Calls Try.prog 9 #[] w fun e w' => ∃ b, e = .returned (.pointer (some ⟨b, 0, none⟩)) ∧ Twins w0 w' a b La [] := by
  obtain ⟨h1, fa, h2, h3⟩ := h
  refine (new_ok w).mono ?_
  rintro e w' ⟨b, fb, rfl, h4, h5, hb⟩
  exact ⟨b, rfl, h1.trans (hb.mono h1.size), fa, fb, h2.below hb, h4, fun k hk => ⟨h3 k hk, fun hf => by have := h2.lt k hk; have := h5 k hf; omega⟩, fun k hk => Nat.le_trans h1.size (h5 k hk)⟩

theorem isIn_new (s : ByteArray) (L : List ByteArray) : isNew s L = !isIn s L := by
  unfold isIn isNew
  by_cases h : idx s L < L.length
  · rw [decide_eq_true h, decide_eq_false (by omega)]; rfl
  · rw [decide_eq_false h, decide_eq_true (by omega)]; rfl
theorem putL_in (s : ByteArray) (L : List ByteArray) : idx s (putL L s) < (putL L s).length ∧ isIn s (putL L s) = true := by
  have : idx s (putL L s) < (putL L s).length := by
    rw [idx_mem]
    unfold putL
    split
    · rename_i h; exact (idx_mem s L).1 h
    · simp
  exact ⟨this, by unfold isIn; exact decide_eq_true this⟩
theorem getN_at (s : ByteArray) (L : List ByteArray) (h : idx s L < L.length) : atS L (getN s L : Nat) = s ∧ atB L (getN s L : Nat) = true := by
  have e : getN s L = idx s L := by unfold getN; rw [if_pos h]
  rw [e]
  unfold atS atB
  rw [if_pos (by omega), Int.toNat_natCast]
  exact ⟨idx_get s L h, by rw [decide_eq_true (by omega)]⟩

set_option maxHeartbeats 2000000 in
theorem lawApart (v : Value) (l : List ByteArray) (s : ByteArray) (w : World) (h : StrsAt w v l) (hl : l.length ≤ 9223372036854775807) (hz : ∀ s ∈ l, s.size ≤ 9223372036854775807) (hs : s.size ≤ 9223372036854775807) :
    Calls Try.prog 6 #[v, .string s] w fun e w' => e = .returned (.bool true) ∧ Below w.heap.size w w' := by
  have G := light_ok v l w h hl hz
  have HG := Lib.hid G
  clear G
  by_cases hlt : lightB l = true
  · rw [hlt] at HG
    obtain ⟨hl2, hz2⟩ := lightB_spec hlt
    clear hlt
    by_cases hs2 : 200 < s.size
    · clear hz2 hz
      go_enter Try.func6, Try.ntmps6
      go_wp2_with (first | (go_at_call 7; refine HG.out.mono ?_; rintro e w1 ⟨rfl, rfl⟩) | (go_at_call 8; refine (known_ok _).mono ?_; rintro e w1 ⟨rfl, hb⟩))
      go_ret
      exact ⟨rfl, hb⟩
    · have pn := ptr_ne
      have HS := Lib.hid h
      obtain ⟨a, cap, rfl, hc⟩ := h
      have HC := Lib.hid hc
      have HZ := Lib.hid hz2
      clear hz2 hz hc
      go_enter Try.func6, Try.ntmps6
      go_wp2_with fail
      refine HG.out.mono ?_
      rintro e w1 ⟨rfl, rfl⟩
      go_wp2_with fail
      refine (newN w).mono ?_
      rintro e w1 ⟨ta, rfl, h1⟩
      go_wp2_with fail
      refine (newT h1).mono ?_
      clear h1
      rintro e w2 ⟨tb, rfl, h2⟩
      go_wp2_with fail
      go_loopg [7, 8, 9, 10, 11] l.length (fun fu i _ _ _ _ wr => ∃ k : Nat, k + fu = l.length ∧ i = .int .i64 k ∧ Twins w wr ta tb (putAll l k) (putAll l k))
      case atStart => exact ⟨0, by omega, rfl, h2⟩
      case round =>
        obtain ⟨k, hk, rfl, hT⟩ := hrel
        have hle := putAll_le l k (by omega)
        by_cases hlt : k < l.length
        · obtain ⟨b, off, rfl, hcell⟩ := HC.out k hlt
          have hxs := HZ.out (l.getD k ByteArray.empty) (by simp [List.getD, hlt])
          have hcr := bkeep hT.1 hcell
          have hsu := putAll_succ l k hlt
          have HU := Lib.hid hsu
          clear hsu
          generalize l.getD k ByteArray.empty = x at *
          have HW := Lib.hid hcell
          clear hcell
          generalize putAll l k = L at *
          go_wp2_with fail
          refine (putT hT x hxs (by omega)).mono ?_
          clear hT hcr
          rintro e w3 ⟨rfl, hT⟩
          have hcr := bkeep hT.1 HW.out
          go_wp2_with fail
          refine (putT2 hT x hxs (by omega)).mono ?_
          clear hT hcr
          rintro e w4 ⟨rfl, hT⟩
          go_wp2_with fail
          go_roundg (gk - 1)
          case measure => omega
          case rel => exact ⟨k + 1, by omega, by simp, by rw [HU.out]; exact hT⟩
        · have hkl : k = l.length := by omega
          rw [hkl] at hT hle
          clear hk hkl
          have hin := putL_in s (putAll l l.length)
          have hat := getN_at s _ hin.1
          have hnw := isIn_new s (putAll l l.length)
          have hin1 := hin.2
          have hat1 := hat.1
          have hat2 := hat.2
          generalize putAll l l.length = L at *
          clear hin hat
          have E := Lib.hid (And.intro hin1 (And.intro hat1 (And.intro hat2 hnw)))
          clear hin1 hat1 hat2 hnw
          go_wp2_with fail
          refine (getT2 hT s (by omega)).mono ?_
          clear hT
          rintro e w3 ⟨rfl, hT⟩
          go_wp2_with fail
          refine (putT hT s (by omega) (by omega)).mono ?_
          clear hT
          rintro e w3 ⟨rfl, hT⟩
          go_wp2_with fail
          refine (getT2 hT s (by omega)).mono ?_
          clear hT
          rintro e w3 ⟨rfl, hT⟩
          go_wp2_with fail
          refine (getT hT s (by omega)).mono ?_
          rw [E.out.1]
          clear hT
          rintro e w3 ⟨rfl, hT⟩
          go_wp2_with fail
          obtain ⟨hB, fa, fb, hTa, _⟩ := hT
          refine (at_ok hTa _).mono ?_
          rw [E.out.2.1, E.out.2.2.1]
          rintro e w5 ⟨rfl, rfl⟩
          have hbt : (s.toList == s.toList) = true := by simp
          have hnw := E.out.2.2.2
          cases hi : isIn s L
          · rw [hi] at hnw
            go_wp2_with (first | (go_at_call 8; refine (known_ok _).mono ?_; rintro e w1 ⟨rfl, hb⟩))
            go_ret
            exact ⟨rfl, hB.trans (hb.mono hB.size)⟩
          · rw [hi] at hnw
            go_wp2_with (first | (go_at_call 8; refine (known_ok _).mono ?_; rintro e w1 ⟨rfl, hb⟩))
            go_ret
            exact ⟨rfl, hB.trans (hb.mono hB.size)⟩
  · have hlf : lightB l = false := by simpa using hlt
    rw [hlf] at HG
    clear hlt hlf hz
    go_enter Try.func6, Try.ntmps6
    go_wp2_with (first | (go_at_call 7; refine HG.out.mono ?_; rintro e w1 ⟨rfl, rfl⟩) | (go_at_call 8; refine (known_ok _).mono ?_; rintro e w1 ⟨rfl, hb⟩))
    go_ret
    exact ⟨rfl, hb⟩
end Go.Proofs.Ytifbilmeecndgaa
