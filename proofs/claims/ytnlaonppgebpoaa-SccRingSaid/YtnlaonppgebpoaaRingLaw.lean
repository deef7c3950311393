/-
  SccRing: plain.
-/
import Derived.Test.YtnlaonppgebpoaaOrderLaw
namespace Go.Proofs.Ytnlaonppgebpoaa

theorem next_mod {d : Nat} (hd : 0 < d) : ∀ i, (cnS (eqB (fun x => x % d)) i).2 = min i d
  | 0 => by simp [cnS]
  | i + 1 => by
    rcases e : (List.range i).find? (fun k => eqB (fun x => x % d) i k) with _ | k
    · rw [cnS_next_none e, next_mod hd i]
      have hn := eqB_none.1 e
      by_cases h : i < d
      · omega
      · exact absurd (by rw [Nat.mod_mod]) (hn (i % d) (Nat.lt_of_lt_of_le (Nat.mod_lt i hd) (by omega)))
    · rw [cnS_next_some e, next_mod hd i]
      have hk := eqB_some e
      by_cases h : i < d
      · have h1 : i % d = k % d := hk.2
        rw [Nat.mod_eq_of_lt h, Nat.mod_eq_of_lt (by omega)] at h1
        omega
      · omega
theorem groups_mod {g : Gr} {k d : Nat} (hn : nodesN g = k) (hd : 0 < d) (hdk : d ≤ k) (h : ∀ i j, i < k → j < i → (SC g i j ↔ i % d = j % d)) : (groupsI g).length = d := by
  rw [groups_len, hn]
  have e : cnS (eqB (scF g)) k = cnS (eqB (fun x => x % d)) k := cnS_congr k fun i j hi hj => by
    unfold eqB
    refine decide_same ?_
    rw [scF_iff]
    exact h i j hi hj
  unfold nextN
  rw [e, next_mod hd]
  omega
/-- a graph of k nodes by its edges -/
theorem eg_csr {k : Nat} {l : List Ed} (h : buildOk k l = true) (a b : Nat) : Eg (csr k l) a b ↔ ∃ e ∈ l, e.1 = (a : Int) ∧ e.2.2 = (b : Int) := by
  unfold Eg
  constructor
  · rintro ⟨e, he, h1⟩; exact ⟨e, (mem_all_csr h e).1 he, h1⟩
  · rintro ⟨e, he, h1⟩; exact ⟨e, (mem_all_csr h e).2 he, h1⟩
/-- the ring -/
def ringL (k by' : Nat) (m : Nat) : List Ed := (List.range m).map (fun i : Nat => ((i : Int), (0 : Int), (((i + by') % k : Nat) : Int)))
def rowL (m : Nat) : List Ed := (List.range m).map (fun i : Nat => ((i : Int), (0 : Int), ((i : Int) + 1)))
theorem ring_ok {k b : Nat} (hk : 0 < k) (hk2 : k ≤ 60) : buildOk k (ringL k b k) = true := by
  refine buildOk_intro (by omega) fun e he => ?_
  obtain ⟨i, hi, rfl⟩ := List.mem_map.1 he
  have := List.mem_range.1 hi
  have := Nat.mod_lt (i + b) hk
  simp only
  omega
theorem row_ok {k : Nat} (hk2 : k ≤ 60) : buildOk k (rowL (k - 1)) = true := by
  refine buildOk_intro (by omega) fun e he => ?_
  obtain ⟨i, hi, rfl⟩ := List.mem_map.1 he
  have := List.mem_range.1 hi
  simp only
  omega
theorem closed_ok {k : Nat} (hk : 0 < k) (hk2 : k ≤ 60) : buildOk k (rowL (k - 1) ++ [((k : Int) - 1, 0, 0)]) = true := by
  refine buildOk_intro (by omega) fun e he => ?_
  rcases List.mem_append.1 he with he | he
  · obtain ⟨i, hi, rfl⟩ := List.mem_map.1 he
    have := List.mem_range.1 hi
    simp only
    omega
  · obtain rfl := List.mem_singleton.1 he
    simp only
    omega
theorem bezout : ∀ k, k < 61 → ∀ b, b < 61 → 0 < k → ∃ m, (m * b) % k = Nat.gcd b k % k := by
  have key : (List.range 61).all (fun k => (List.range 61).all (fun b => k == 0 || (List.range 61).any (fun m => (m * b) % k == Nat.gcd b k % k))) = true := by decide +kernel
  intro k hk b hb h0
  have h1 := List.all_eq_true.1 key k (List.mem_range.2 hk)
  have h2 := List.all_eq_true.1 h1 b (List.mem_range.2 hb)
  rw [Bool.or_eq_true] at h2
  rcases h2 with h2 | h2
  · simp at h2; omega
  · obtain ⟨m, -, hm⟩ := List.any_eq_true.1 h2
    exact ⟨m, by simpa using hm⟩
theorem ring_eg {k b : Nat} (hk : 0 < k) (hk2 : k ≤ 60) (x y : Nat) : Eg (csr k (ringL k b k)) x y ↔ x < k ∧ y = (x + b) % k := by
  rw [eg_csr (ring_ok hk hk2)]
  constructor
  · rintro ⟨e, he, h1, h2⟩
    obtain ⟨i, hi, rfl⟩ := List.mem_map.1 he
    have := List.mem_range.1 hi
    have h1' : (i : Int) = x := h1
    obtain rfl : i = x := by omega
    have h2' : (((i + b) % k : Nat) : Int) = y := h2
    exact ⟨this, by omega⟩
  · rintro ⟨h1, rfl⟩
    exact ⟨_, List.mem_map.2 ⟨x, List.mem_range.2 h1, rfl⟩, rfl, rfl⟩
theorem ring_walk {k b : Nat} (hk : 0 < k) (hk2 : k ≤ 60) {x : Nat} (hx : x < k) : ∀ m, Pth (Eg (csr k (ringL k b k))) x ((x + m * b) % k)
  | 0 => by rw [Nat.zero_mul, Nat.add_zero, Nat.mod_eq_of_lt hx]; exact .refl x
  | m + 1 => by
    refine .step (ring_walk hk hk2 hx m) ((ring_eg hk hk2 _ _).2 ⟨Nat.mod_lt _ hk, ?_⟩)
    rw [Nat.mod_add_mod, Nat.succ_mul]
    congr 1
    omega
theorem ring_sc {k b : Nat} (hk : 0 < k) (hk2 : k ≤ 60) (hb : 0 < b) (hb2 : b ≤ k) {i j : Nat} (hi : i < k) (hj : j < k) : Pth (Eg (csr k (ringL k b k))) i j ↔ i % Nat.gcd b k = j % Nat.gcd b k := by
  have hd1 : Nat.gcd b k ∣ b := Nat.gcd_dvd_left b k
  have hd2 : Nat.gcd b k ∣ k := Nat.gcd_dvd_right b k
  have hd0 : 0 < Nat.gcd b k := Nat.gcd_pos_of_pos_left k hb
  obtain ⟨m0, hm0⟩ := bezout k (by omega) b (by omega) hk
  generalize Nat.gcd b k = d at *
  constructor
  · intro h
    have key : ∀ y, Pth (Eg (csr k (ringL k b k))) i y → y % d = i % d := by
      intro y hy
      induction hy with
      | refl => rfl
      | step _ he ih =>
        obtain ⟨-, rfl⟩ := (ring_eg hk hk2 _ _).1 he
        rw [Nat.mod_mod_of_dvd _ hd2, ← ih]
        obtain ⟨c, rfl⟩ := hd1
        rw [Nat.add_mul_mod_self_left]
    exact (key j h).symm
  · intro h
    -- the way from i to j
    obtain ⟨q, hq⟩ : ∃ q, j + k - i = d * q := by
      obtain ⟨c, hc⟩ := hd2
      have e1 : d * (i / d) + i % d = i := Nat.div_add_mod i d
      have e2 : d * (j / d) + j % d = j := Nat.div_add_mod j d
      refine ⟨j / d + c - i / d, ?_⟩
      have h3 : i / d ≤ j / d + c := by
        refine Nat.le_of_mul_le_mul_left (c := d) ?_ hd0
        rw [Nat.mul_add]
        omega
      rw [Nat.mul_sub, Nat.mul_add]
      omega
    have hw := ring_walk (b := b) hk hk2 hi (q * m0)
    have e : (i + q * m0 * b) % k = j := by
      have e1 : (q * m0 * b) % k = (d * q) % k := by
        rw [Nat.mul_assoc, Nat.mul_mod, hm0, ← Nat.mul_mod, Nat.mul_comm d q]
      rw [Nat.add_mod, e1, ← Nat.add_mod, ← hq]
      have : i + (j + k - i) = j + k := by omega
      rw [this, Nat.add_mod_right, Nat.mod_eq_of_lt hj]
    rw [e] at hw
    exact hw
theorem ring_groups {k b : Nat} (hk : 0 < k) (hk2 : k ≤ 60) (hb : 0 < b) (hb2 : b ≤ k) : (groupsI (csr k (ringL k b k))).length = Nat.gcd b k := by
  refine groups_mod (csr_nodes (ring_ok hk hk2)) (Nat.gcd_pos_of_pos_left k hb) (Nat.le_of_dvd hk (Nat.gcd_dvd_right b k)) fun i j hi hj => ?_
  constructor
  · intro h; exact (ring_sc hk hk2 hb hb2 hi (by omega)).1 h.1
  · intro h; exact ⟨(ring_sc hk hk2 hb hb2 hi (by omega)).2 h, (ring_sc hk hk2 hb hb2 (by omega) hi).2 h.symm⟩
theorem row_eg {k : Nat} (hk2 : k ≤ 60) (x y : Nat) : Eg (csr k (rowL (k - 1))) x y ↔ x + 1 < k ∧ y = x + 1 := by
  rw [eg_csr (row_ok hk2)]
  constructor
  · rintro ⟨e, he, h1, h2⟩
    obtain ⟨i, hi, rfl⟩ := List.mem_map.1 he
    have := List.mem_range.1 hi
    have h1' : (i : Int) = x := h1
    have h2' : (i : Int) + 1 = y := h2
    omega
  · rintro ⟨h1, rfl⟩
    exact ⟨_, List.mem_map.2 ⟨x, List.mem_range.2 (by omega), rfl⟩, rfl, by simp⟩
theorem row_groups {k : Nat} (hk : 0 < k) (hk2 : k ≤ 60) : (groupsI (csr k (rowL (k - 1)))).length = k := by
  refine groups_mod (csr_nodes (row_ok hk2)) hk (Nat.le_refl k) fun i j hi hj => ?_
  rw [Nat.mod_eq_of_lt hi, Nat.mod_eq_of_lt (by omega)]
  have key : ∀ x y, Pth (Eg (csr k (rowL (k - 1)))) x y → x ≤ y := by
    intro x y h
    induction h with
    | refl => exact Nat.le_refl _
    | step _ he ih => have := (row_eg hk2 _ _).1 he; omega
  constructor
  · intro h; have := key _ _ h.1; omega
  · intro h; omega
theorem closed_eg {k : Nat} (hk : 0 < k) (hk2 : k ≤ 60) (x y : Nat) : Eg (csr k (rowL (k - 1) ++ [((k : Int) - 1, 0, 0)])) x y ↔ (x + 1 < k ∧ y = x + 1) ∨ (x + 1 = k ∧ y = 0) := by
  rw [eg_csr (closed_ok hk hk2)]
  constructor
  · rintro ⟨e, he, h1, h2⟩
    rcases List.mem_append.1 he with he | he
    · obtain ⟨i, hi, rfl⟩ := List.mem_map.1 he
      have := List.mem_range.1 hi
      have h1' : (i : Int) = x := h1
      have h2' : (i : Int) + 1 = y := h2
      omega
    · obtain rfl := List.mem_singleton.1 he
      have h1' : (k : Int) - 1 = x := h1
      have h2' : (0 : Int) = y := h2
      omega
  · rintro (⟨h1, rfl⟩ | ⟨h1, rfl⟩)
    · exact ⟨_, List.mem_append_left _ (List.mem_map.2 ⟨x, List.mem_range.2 (by omega), rfl⟩), rfl, by simp⟩
    · exact ⟨_, List.mem_append_right _ (List.mem_singleton.2 rfl), by show (k : Int) - 1 = x; omega, rfl⟩
theorem closed_groups {k : Nat} (hk : 0 < k) (hk2 : k ≤ 60) : (groupsI (csr k (rowL (k - 1) ++ [((k : Int) - 1, 0, 0)]))).length = 1 := by
  refine groups_mod (csr_nodes (closed_ok hk hk2)) (by omega) hk fun i j hi hj => ?_
  have h0 : ∀ j, j < k → Pth (Eg (csr k (rowL (k - 1) ++ [((k : Int) - 1, 0, 0)]))) 0 j := by
    intro j
    induction j with
    | zero => intro _; exact .refl 0
    | succ j ih => intro hj; exact .step (ih (by omega)) ((closed_eg hk hk2 _ _).2 (.inl ⟨hj, rfl⟩))
  have h1 : ∀ m i, i + m + 1 = k → Pth (Eg (csr k (rowL (k - 1) ++ [((k : Int) - 1, 0, 0)]))) i 0 := by
    intro m
    induction m with
    | zero => intro i hi; exact .one ((closed_eg hk hk2 _ _).2 (.inr ⟨by omega, rfl⟩))
    | succ m ih => intro i hi; exact (Pth.one ((closed_eg hk hk2 _ _).2 (.inl ⟨by omega, rfl⟩))).trans (ih (i + 1) (by omega))
  have hall : ∀ a b, a < k → b < k → Pth (Eg (csr k (rowL (k - 1) ++ [((k : Int) - 1, 0, 0)]))) a b := fun a b ha hb => (h1 (k - a - 1) a (by omega)).trans (h0 b hb)
  rw [Nat.mod_one, Nat.mod_one]
  exact ⟨fun _ => rfl, fun _ => ⟨hall i j hi (by omega), hall j i (by omega) hi⟩⟩
end Go.Proofs.Ytnlaonppgebpoaa
