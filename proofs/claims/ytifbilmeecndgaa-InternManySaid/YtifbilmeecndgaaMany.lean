/-
  The walk of InternMany.
-/
import Derived.Test.YtifbilmeecndgaaLaws
namespace Go.Proofs.Ytifbilmeecndgaa
open Go.RowKit

/-- the text of a number: its three bytes -/
def text3 (k : Nat) : ByteArray := ⟨#[UInt8.ofNat k, UInt8.ofNat (k / 256), UInt8.ofNat (k / 65536)]⟩
theorem text3_inj {a b : Nat} (ha : a < 16777216) (hb : b < 16777216) (h : text3 a = text3 b) : a = b := by
  unfold text3 at h
  simp only [ByteArray.mk.injEq, Array.mk.injEq, List.cons.injEq, and_true] at h
  obtain ⟨h1, h2, h3⟩ := h
  have e : ∀ x y : Nat, UInt8.ofNat x = UInt8.ofNat y → x % 256 = y % 256 := fun x y h => by
    have := congrArg UInt8.toNat h; simpa using this
  have := e _ _ h1; have := e _ _ h2; have := e _ _ h3
  omega
def texts (m n : Nat) : List ByteArray := (List.range n).map fun i => text3 (i * m)
theorem texts_len (m n : Nat) : (texts m n).length = n := by simp [texts]
theorem texts_get (m n i : Nat) (hi : i < n) : (texts m n).getD i ByteArray.empty = text3 (i * m) := by simp [texts, List.getD, hi]
theorem texts_succ (m n : Nat) : texts m (n + 1) = texts m n ++ [text3 (n * m)] := by simp [texts, List.range_succ]
theorem texts_idx (m n i : Nat) (hm : 0 < m) (hb : n * m < 16777216) (hi : i < n) : idx (text3 (i * m)) (texts m n) = i := by
  have hmem : text3 (i * m) ∈ texts m n := by simp only [texts, List.mem_map, List.mem_range]; exact ⟨i, hi, rfl⟩
  have h1 := (idx_mem _ _).2 hmem
  have h2 := idx_get _ _ h1
  rw [texts_len] at h1
  rw [texts_get m n _ h1] at h2
  have hlt : ∀ x, x < n → x * m < 16777216 := fun x hx => Nat.lt_of_le_of_lt (Nat.mul_le_mul_right m (Nat.le_of_lt hx)) hb
  have := text3_inj (hlt _ h1) (hlt _ hi) h2
  exact Nat.eq_of_mul_eq_mul_right hm this
theorem texts_new (m n : Nat) (hm : 0 < m) (hb : n * m < 16777216) : idx (text3 (n * m)) (texts m n) = n := by
  apply Classical.byContradiction; intro hne
  have hle := idx_le (text3 (n * m)) (texts m n)
  have h1 : idx (text3 (n * m)) (texts m n) < (texts m n).length := by rw [texts_len] at hle ⊢; omega
  have h2 := idx_get _ _ h1
  rw [texts_len] at h1
  rw [texts_get m n _ h1] at h2
  have hlt : ∀ x, x ≤ n → x * m < 16777216 := fun x hx => Nat.lt_of_le_of_lt (Nat.mul_le_mul_right m hx) hb
  have := text3_inj (hlt _ (by omega)) (hlt _ (Nat.le_refl _)) h2
  exact hne (Nat.eq_of_mul_eq_mul_right hm this)

theorem conv3 (w : World) (K : Nat) (hK : K < 16777216) :
    (convert 39 9 (.slice (some ⟨w.heap.size, 0, none⟩) 3 3)).run Try.prog (w.alloc (.cells #[.int .u8 ((K : Int) % 256), .int .u8 ((K : Int) / 256 % 256), .int .u8 ((K : Int) / 65536)] 5)) =
      .ok (.string (text3 K)) (w.alloc (.cells #[.int .u8 ((K : Int) % 256), .int .u8 ((K : Int) / 256 % 256), .int .u8 ((K : Int) / 65536)] 5)) := by
  have h := run_convert_bytes_arg (P := Try.prog) (w.alloc (.cells #[.int .u8 ((K : Int) % 256), .int .u8 ((K : Int) / 256 % 256), .int .u8 ((K : Int) / 65536)] 5)) 39 5 Try.underlying39 Try.underlying5 w.heap.size 0 3 3 [(K : Int) % 256, (K : Int) / 256 % 256, (K : Int) / 65536] rfl
    (by
      intro i hi
      match i, hi with
      | 0, _ => exact cell_of_block (heap_alloc_new w _) 0 _ rfl
      | 1, _ => exact cell_of_block (heap_alloc_new w _) 1 _ rfl
      | 2, _ => exact cell_of_block (heap_alloc_new w _) 2 _ rfl) 9 Try.underlying9
  rw [h]
  congr 2
  unfold strOfNums text3
  have e : ∀ x : Nat, UInt8.ofNat (x % 256) = UInt8.ofNat x := fun x => by
    apply UInt8.toNat_inj.1; simp
  have e1 : ((K : Int) % 256).toNat = K % 256 := by omega
  have e2 : ((K : Int) / 256 % 256).toNat = K / 256 % 256 := by omega
  have e3 : ((K : Int) / 65536).toNat = K / 65536 := by omega
  simp only [List.map_cons, List.map_nil, e1, e2, e3, e]

set_option maxRecDepth 100000 in
set_option maxHeartbeats 4000000 in
theorem lawMany (n st : Nat) (w : World) (hn : n ≤ 65535) (hst : st ≤ 255) :
    Calls Try.prog 4 #[.int .u16 (n : Nat), .int .u8 (st : Nat)] w fun e w' => e = .returned (.bool true) ∧ Below w.heap.size w w' := by
  have pn := ptr_ne
  obtain ⟨N, hN⟩ : ∃ N, N = n % 3000 := ⟨_, rfl⟩
  have hN2 : (n : Int) % 3000 = (N : Int) := by omega
  have hN3 : N < 3000 := by omega
  clear hN
  obtain ⟨m, hm⟩ : ∃ m, m = 1 + 2 * st := ⟨_, rfl⟩
  have hm1 : 0 < m := by omega
  have hm2 : m ≤ 511 := by omega
  have HM := Lib.hid hm
  clear hm
  go_enter Try.func4, Try.ntmps4
  go_wp2_with fail
  refine (newN w).mono ?_
  rintro e w1 ⟨ta, rfl, h1⟩
  go_wp2_with fail
  clear hN2
  go_loopg [7, 8, 9, 10, 11] N (fun fu i _ _ _ _ wr => ∃ k : Nat, k + fu = N ∧ i = .int .i64 k ∧ TabNew w wr ta (texts m k))
  case atStart => exact ⟨0, by omega, rfl, h1⟩
  case round =>
    obtain ⟨k, hk, rfl, hT⟩ := hrel
    by_cases hlt : k < N
    · obtain ⟨K, hK⟩ : ∃ K, K = k * m := ⟨_, rfl⟩
      have hK2 : (k : Int) * (1 + 2 * (st : Int)) = (K : Int) := by rw [hK, HM.out]; simp
      have hK3 : K ≤ 1533000 := by rw [hK]; exact Nat.le_trans (Nat.mul_le_mul (by omega : k ≤ 3000) hm2) (by omega)
      have HK := Lib.hid hK
      clear hK
      have hcv := conv3 wr K (by omega)
      have h3 : (text3 K).size ≤ 200 := by show 3 ≤ 200; omega
      have hnb : N * m < 16777216 := Nat.lt_of_le_of_lt (Nat.mul_le_mul (by omega : N ≤ 3000) hm2) (by omega)
      have hkb : k * m < 16777216 := Nat.lt_of_le_of_lt (Nat.mul_le_mul_right m (by omega)) hnb
      have hix : idx (text3 K) (texts m k) = k := by rw [HK.out]; exact texts_new m k hm1 hkb
      have hpl : putL (texts m k) (text3 K) = texts m (k + 1) := by unfold putL; rw [hix, texts_len, if_neg (by omega), texts_succ, HK.out]
      have hnw : isNew (text3 K) (texts m k) = true := by unfold isNew; rw [hix, texts_len]; simp
      have P := putN (hT.below ((Below.refl wr.heap.size wr).alloc (Nat.le_refl _) (.cells #[.int .u8 ((K : Int) % 256), .int .u8 ((K : Int) / 256 % 256), .int .u8 ((K : Int) / 65536)] 5))) (text3 K) h3 (by rw [texts_len]; omega)
      rw [hix, hpl, hnw] at P
      have HP := Lib.hid P
      have hsl := (slots_ge (k + 1) (by omega)).2
      have hsu : Tab.slots (k + 1) ≤ 1000000 := by
        obtain ⟨j, j1, j2, _⟩ := slots_two (k + 1) (by omega)
        have : (2 : Nat) ^ j ≤ 2 ^ 15 := Nat.pow_le_pow_right (by omega) j1
        omega
      clear P hix hpl hnw hnb hkb hT
      go_wp2_with fail
      refine HP.out.mono ?_
      rintro e w3 ⟨rfl, hT⟩
      have hT' := hT
      obtain ⟨_, f, hO, _⟩ := hT'
      have T1 := len_ok hO
      have T2 := slots_ok hO
      rw [texts_len] at T1 T2
      have HT1 := Lib.hid T1
      have HT2 := Lib.hid T2
      clear T1 T2
      have q1 : ∀ z : Int, (!z == z) = false := by intro z; simp
      generalize Tab.slots (k + 1) = sl at *
      have q2 : decide (sl < 2 * (k + 1)) = false := by simp; omega
      go_wp2_with (first | (go_at_call 14; refine HT1.out.mono ?_; rintro e w4 ⟨rfl, rfl⟩) | (go_at_call 15; refine HT2.out.mono ?_; rintro e w4 ⟨rfl, rfl⟩))
      go_roundg (gk - 1)
      case measure => omega
      case rel => exact ⟨k + 1, by omega, by simp, hT⟩
    · obtain rfl : k = N := by omega
      go_wp2_with fail
      obtain ⟨wz, rfl⟩ : ∃ z : World, z = wr := ⟨_, rfl⟩
      go_loopg [12, 13, 14, 15, 16, 17, 18, 19, 20] k (fun fu i _ _ _ _ _ _ _ _ wr => fu ≤ k ∧ (∃ iv : Int, i = .int .i64 iv ∧ iv = (fu : Int) - 1) ∧ TabNew w wr ta (texts m k))
      case atStart => exact ⟨Nat.le_refl _, ⟨_, rfl, rfl⟩, hT⟩
      case round =>
        clear hT
        obtain ⟨hfk, ⟨iv, rfl, hiv⟩, hT⟩ := hrel
        cases gk with
        | zero =>
          obtain rfl : iv = -1 := by omega
          clear hiv
          have T1 := (let ⟨_, f, hO, _⟩ := hT; len_ok hO)
          rw [texts_len] at T1
          have HT1 := Lib.hid T1
          clear T1
          have q1 : ∀ z : Int, (z == z) = true := by intro z; simp
          go_wp2_with (first | (go_at_call 14; refine HT1.out.mono ?_; rintro e w4 ⟨rfl, rfl⟩) | (go_at_call 8; refine (known_ok _).mono ?_; rintro e w1 ⟨rfl, hb⟩))
          go_ret
          exact ⟨rfl, hT.1.trans (hb.mono hT.1.size)⟩
        | succ p =>
          obtain rfl : iv = (p : Int) := by omega
          clear hiv
          obtain ⟨K, hK⟩ : ∃ K, K = p * m := ⟨_, rfl⟩
          have hK2 : (p : Int) * (1 + 2 * (st : Int)) = (K : Int) := by rw [hK, HM.out]; simp
          have hK3 : K ≤ 1533000 := by rw [hK]; exact Nat.le_trans (Nat.mul_le_mul (by omega : p ≤ 3000) hm2) (by omega)
          have HK := Lib.hid hK
          clear hK
          have hcv := conv3 wr K (by omega)
          have h3 : (text3 K).size ≤ 200 := by show 3 ≤ 200; omega
          have hnb : k * m < 16777216 := Nat.lt_of_le_of_lt (Nat.mul_le_mul (by omega : k ≤ 3000) hm2) (by omega)
          have hix : idx (text3 K) (texts m k) = p := by rw [HK.out]; exact texts_idx m k p hm1 hnb (by omega)
          have hpl : putL (texts m k) (text3 K) = texts m k := by unfold putL; rw [hix, texts_len, if_pos (by omega)]
          have hnw : isNew (text3 K) (texts m k) = false := by unfold isNew; rw [hix, texts_len]; simp; omega
          have hgn : getN (text3 K) (texts m k) = p := by unfold getN; rw [hix, texts_len, if_pos (by omega)]
          have hgi : isIn (text3 K) (texts m k) = true := by unfold isIn; rw [hix, texts_len]; simp; omega
          have has : atS (texts m k) (p : Int) = text3 K := by unfold atS; rw [texts_len, if_pos (by omega), Int.toNat_natCast, texts_get m k p (by omega), HK.out]
          have hab : atB (texts m k) (p : Int) = true := by unfold atB; rw [texts_len, decide_eq_true (by omega)]
          have P1 : ∀ w3, TabNew w w3 ta (texts m k) → _ := fun w3 h => getN_ok h (text3 K) h3
          have P2 : ∀ w3, TabNew w w3 ta (texts m k) → _ := fun w3 h => putN h (text3 K) h3 (by rw [texts_len]; omega)
          have P3 : ∀ w3, TabNew w w3 ta (texts m k) → _ := fun w3 h => (let ⟨_, f, hO, _⟩ := h; at_ok hO (p : Int))
          rw [hgn, hgi] at P1
          rw [hix, hpl, hnw] at P2
          rw [has, hab] at P3
          have HP1 := Lib.hid (P1 _ (hT.below ((Below.refl wr.heap.size wr).alloc (Nat.le_refl _) (.cells #[.int .u8 ((K : Int) % 256), .int .u8 ((K : Int) / 256 % 256), .int .u8 ((K : Int) / 65536)] 5))))
          have HP2 := Lib.hid P2
          have HP3 := Lib.hid P3
          clear P1 P2 P3 hix hpl hnw hgn hgi has hab hnb hT
          have q1 : ∀ z : Int, (!z == z) = false := by intro z; simp
          have q2 : (!(text3 K).toList == (text3 K).toList) = false := by simp
          generalize text3 K = tx at *
          go_wp2_with fail
          refine HP1.out.mono ?_
          rintro e w3 ⟨rfl, hT, _⟩
          go_wp2_with fail
          refine (HP2.out _ hT).mono ?_
          clear hT
          rintro e w3 ⟨rfl, hT⟩
          go_wp2_with fail
          refine (HP3.out _ hT).mono ?_
          rintro e w3 ⟨rfl, rfl⟩
          go_wp2_with fail
          go_roundg p
          case measure => omega
          case rel => exact ⟨by omega, ⟨_, rfl, by omega⟩, hT⟩
end Go.Proofs.Ytifbilmeecndgaa
