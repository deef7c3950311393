/-
  The plain theory of a table with open addressing: no program in sight.
-/
import Derived.Test.YtifbilmeecndgaaBase
namespace Go.Proofs.Ytifbilmeecndgaa
namespace Tab

section
variable (L : List ByteArray) (S : List Nat) (s : ByteArray)

/-- at this slot a search for s ends -/
def hit (p : Nat) : Bool := S.getD p 0 == 0 || decide (L.getD (S.getD p 0 - 1) ByteArray.empty = s)

/-- the slot at which a search that stands at p ends, in at most f steps -/
def probe : Nat → Nat → Nat
  | 0, p => p
  | f + 1, p => if hit L S s p then p else probe f ((p + 1) % S.length)

/-- within f steps from p the search ends -/
def ends : Nat → Nat → Prop
  | 0, _ => False
  | f + 1, p => hit L S s p = true ∨ ends f ((p + 1) % S.length)
end

theorem ends_of {L : List ByteArray} {S : List Nat} {s : ByteArray} (hS : 0 < S.length) : ∀ (f p d : Nat), p < S.length → d < f → hit L S s ((p + d) % S.length) = true → ends L S s f p
  | 0, p, d, _, hd, _ => by omega
  | f + 1, p, 0, hp, _, h => Or.inl (by rw [Nat.add_zero, Nat.mod_eq_of_lt hp] at h; exact h)
  | f + 1, p, d + 1, hp, hd, h => Or.inr (ends_of hS f _ d (Nat.mod_lt _ hS) (by omega) (by rw [Nat.mod_add_mod, Nat.add_assoc, Nat.add_comm 1 d]; exact h))

/-- what is found: not hit on the way, hit at its end -/
theorem probe_spec {L : List ByteArray} {S : List Nat} {s : ByteArray} (hS : 0 < S.length) : ∀ (f p : Nat), p < S.length → ends L S s f p →
    ∃ d, d < f ∧ probe L S s f p = (p + d) % S.length ∧ hit L S s ((p + d) % S.length) = true ∧ ∀ e, e < d → hit L S s ((p + e) % S.length) = false
  | 0, p, _, h => h.elim
  | f + 1, p, hp, h => by
    by_cases hh : hit L S s p = true
    · exact ⟨0, by omega, by simp [probe, hh, Nat.mod_eq_of_lt hp], by rw [Nat.add_zero, Nat.mod_eq_of_lt hp]; exact hh, fun e he => by omega⟩
    · have h' : ends L S s f ((p + 1) % S.length) := h.resolve_left hh
      obtain ⟨d, hd, h1, h2, h3⟩ := probe_spec hS f _ (Nat.mod_lt _ hS) h'
      have hm : ∀ x, ((p + 1) % S.length + x) % S.length = (p + (x + 1)) % S.length := fun x => by rw [Nat.mod_add_mod, Nat.add_assoc, Nat.add_comm 1 x]
      refine ⟨d + 1, by omega, ?_, by rw [← hm]; exact h2, ?_⟩
      · rw [probe, if_neg hh, h1, hm]
      · intro e he
        match e with
        | 0 => rw [Nat.add_zero, Nat.mod_eq_of_lt hp]; simpa using hh
        | e + 1 => rw [← hm]; exact h3 e (by omega)

/-- The table: each text below number k stands at the end of a way of slots that are not free; no slot has a number above k; of the slots k are not free. -/
structure Fine (H : ByteArray → Nat) (L : List ByteArray) (S : List Nat) (k : Nat) : Prop where
  pos : 0 < S.length
  le : k ≤ L.length
  room : k < S.length
  bound : ∀ p, S.getD p 0 ≤ k
  used : (S.filter (· != 0)).length = k
  place : ∀ i, i < k → ∃ d, d < S.length ∧ S.getD ((H (L.getD i ByteArray.empty) + d) % S.length) 0 = i + 1 ∧ ∀ e, e < d → S.getD ((H (L.getD i ByteArray.empty) + e) % S.length) 0 ≠ 0

theorem free_slot {S : List Nat} {k : Nat} (h : (S.filter (· != 0)).length = k) (hk : k < S.length) : ∃ p, p < S.length ∧ S.getD p 0 = 0 := by
  apply Classical.byContradiction
  intro hn
  have : S.filter (· != 0) = S := by
    rw [List.filter_eq_self]
    intro a ha
    obtain ⟨p, hp, rfl⟩ := List.mem_iff_getElem.1 ha
    by_cases h0 : S[p] = 0
    · exact (hn ⟨p, hp, by simp [List.getD, List.getElem?_eq_getElem hp, h0]⟩).elim
    · simpa using h0
  rw [this] at h; omega

/-- from each place each place is reached -/
theorem way {n p q : Nat} (hp : p < n) (hq : q < n) : ∃ d, d < n ∧ (p + d) % n = q := by
  by_cases h : p ≤ q
  · exact ⟨q - p, by omega, by rw [show p + (q - p) = q by omega]; exact Nat.mod_eq_of_lt hq⟩
  · exact ⟨n - p + q, by omega, by rw [show p + (n - p + q) = n + q by omega, Nat.add_mod_left]; exact Nat.mod_eq_of_lt hq⟩

theorem Fine.ends {H : ByteArray → Nat} {L : List ByteArray} {S : List Nat} {k : Nat} (h : Fine H L S k) (s : ByteArray) (p : Nat) (hp : p < S.length) : ends L S s S.length p := by
  obtain ⟨q, hq, h0⟩ := free_slot h.used h.room
  obtain ⟨d, hd, he⟩ := way hp hq
  exact ends_of h.pos _ _ d hp hd (by rw [he]; unfold hit; rw [h0]; rfl)

/-- where the search for s ends -/
def spot (H : ByteArray → Nat) (L : List ByteArray) (S : List Nat) (s : ByteArray) : Nat := probe L S s S.length (H s % S.length)

theorem Fine.spot_lt {H : ByteArray → Nat} {L : List ByteArray} {S : List Nat} {k : Nat} (h : Fine H L S k) (s : ByteArray) : spot H L S s < S.length := by
  obtain ⟨d, _, h1, _⟩ := probe_spec h.pos _ _ (Nat.mod_lt (H s) h.pos) (h.ends s _ (Nat.mod_lt _ h.pos))
  unfold spot; rw [h1]; exact Nat.mod_lt _ h.pos

/-- a text that is there is found -/
theorem Fine.found {H : ByteArray → Nat} {L : List ByteArray} {S : List Nat} {k : Nat} (h : Fine H L S k) (hn : L.Nodup) (i : Nat) (hi : i < k) :
    S.getD (spot H L S (L.getD i ByteArray.empty)) 0 = i + 1 := by
  obtain ⟨d, hd, h1, h2, h3⟩ := probe_spec h.pos _ _ (Nat.mod_lt (H (L.getD i ByteArray.empty)) h.pos) (h.ends (L.getD i ByteArray.empty) _ (Nat.mod_lt _ h.pos))
  obtain ⟨c, hc, p1, p2⟩ := h.place i hi
  unfold spot; rw [h1]
  simp only [Nat.mod_add_mod] at h2 h3 ⊢
  have hle : d ≤ c := by
    apply Nat.le_of_not_lt; intro hlt
    have := h3 c hlt
    unfold hit at this
    rw [p1] at this
    simp at this
  by_cases hdc : d = c
  · subst hdc; exact p1
  · have hne := p2 d (by omega)
    have hb := h.bound ((H (L.getD i ByteArray.empty) + d) % S.length)
    simp only [hit, Bool.or_eq_true, beq_iff_eq, decide_eq_true_eq] at h2
    have h2' := h2.resolve_left hne
    generalize S.getD ((H (L.getD i ByteArray.empty) + d) % S.length) 0 = x at *
    have hle := h.le
    have hx : x - 1 < L.length := by omega
    have hi' : i < L.length := by omega
    have e1 : L.getD (x - 1) ByteArray.empty = L[x - 1] := by simp [List.getD, List.getElem?_eq_getElem hx]
    have e2 : L.getD i ByteArray.empty = L[i] := by simp [List.getD, List.getElem?_eq_getElem hi']
    rw [e1, e2] at h2'
    have := (List.getElem_inj hn).1 h2'
    omega

/-- a text that is not there ends at a free slot, and nothing free lies on the way -/
theorem Fine.free {H : ByteArray → Nat} {L : List ByteArray} {S : List Nat} {k : Nat} (h : Fine H L S k) (s : ByteArray) (hs : ∀ i, i < k → L.getD i ByteArray.empty ≠ s) :
    S.getD (spot H L S s) 0 = 0 ∧ ∃ d, d < S.length ∧ spot H L S s = (H s + d) % S.length ∧ ∀ e, e < d → S.getD ((H s + e) % S.length) 0 ≠ 0 := by
  obtain ⟨d, hd, h1, h2, h3⟩ := probe_spec h.pos _ _ (Nat.mod_lt (H s) h.pos) (h.ends s _ (Nat.mod_lt _ h.pos))
  have e : spot H L S s = (H s + d) % S.length := by unfold spot; rw [h1, Nat.mod_add_mod]
  simp only [Nat.mod_add_mod] at h2 h3
  refine ⟨?_, d, hd, e, fun e he => ?_⟩
  · rw [e]
    simp only [hit, Bool.or_eq_true, beq_iff_eq, decide_eq_true_eq] at h2
    rcases h2 with h2 | h2
    · exact h2
    · apply Classical.byContradiction
      intro h0
      have hb := h.bound ((H s + d) % S.length)
      exact hs _ (by omega) h2
  · have := h3 e he
    simp only [hit, Bool.or_eq_false_iff, beq_eq_false_iff_ne, decide_eq_false_iff_not] at this
    exact this.1

theorem getD_set_same {α : Type} (l : List α) (p : Nat) (v z : α) (hp : p < l.length) : (l.set p v).getD p z = v := by simp [List.getD, hp]
theorem getD_set_other {α : Type} (l : List α) (p q : Nat) (v z : α) (h : p ≠ q) : (l.set p v).getD q z = l.getD q z := by simp [List.getD, h]

theorem filter_set {S : List Nat} : ∀ {p v : Nat}, p < S.length → S.getD p 0 = 0 → v ≠ 0 → ((S.set p v).filter (· != 0)).length = (S.filter (· != 0)).length + 1 := by
  induction S with
  | nil => intro p v hp; simp at hp
  | cons a S ih =>
    intro p v hp h0 hv
    match p with
    | 0 =>
      have ha : a = 0 := by simpa [List.getD] using h0
      subst ha
      simp [hv]
    | p + 1 =>
      have := ih (p := p) (v := v) (by simpa using hp) (by simpa [List.getD] using h0) hv
      simp only [List.set_cons_succ, List.filter_cons]
      split <;> simp [this]

/-- the text of number k is laid at its spot -/
theorem Fine.put {H : ByteArray → Nat} {L : List ByteArray} {S : List Nat} {k : Nat} (h : Fine H L S k) (hk : k < L.length) (hr : k + 1 < S.length) (hn : L.Nodup) :
    Fine H L (S.set (spot H L S (L.getD k ByteArray.empty)) (k + 1)) (k + 1) := by
  have hne : ∀ i, i < k → L.getD i ByteArray.empty ≠ L.getD k ByteArray.empty := by
    intro i hi e
    have hi' : i < L.length := by omega
    have e1 : L.getD i ByteArray.empty = L[i] := by simp [List.getD, List.getElem?_eq_getElem hi']
    have e2 : L.getD k ByteArray.empty = L[k] := by simp [List.getD, List.getElem?_eq_getElem hk]
    rw [e1, e2] at e
    have := (List.getElem_inj hn).1 e
    omega
  obtain ⟨h0, d, hd, hsp, hway⟩ := h.free (L.getD k ByteArray.empty) hne
  have hlt := h.spot_lt (L.getD k ByteArray.empty)
  generalize hq : spot H L S (L.getD k ByteArray.empty) = q at *
  refine ⟨by simpa using h.pos, hk, by simpa using hr, ?_, ?_, ?_⟩
  · intro p
    by_cases hp : q = p
    · subst hp; rw [getD_set_same _ _ _ _ hlt]; exact Nat.le_refl _
    · rw [getD_set_other _ _ _ _ _ hp]; exact Nat.le_trans (h.bound p) (by omega)
  · rw [filter_set hlt h0 (by omega), h.used]
  · intro i hi
    have keep : ∀ p, S.getD p 0 ≠ 0 → (S.set q (k + 1)).getD p 0 = S.getD p 0 := fun p hp => getD_set_other _ _ _ _ _ (fun e => hp (e ▸ h0))
    rw [List.length_set]
    by_cases hik : i = k
    · subst hik
      refine ⟨d, hd, by rw [← hsp]; exact getD_set_same _ _ _ _ hlt, fun e he => ?_⟩
      rw [keep _ (hway e he)]; exact hway e he
    · obtain ⟨c, hc, p1, p2⟩ := h.place i (by omega)
      exact ⟨c, hc, by rw [keep _ (by rw [p1]; omega)]; exact p1, fun e he => by rw [keep _ (p2 e he)]; exact p2 e he⟩

/-- free slots alone -/
theorem Fine.none (H : ByteArray → Nat) (L : List ByteArray) (n : Nat) (hn : 0 < n) : Fine H L (List.replicate n 0) 0 := by
  refine ⟨by simpa using hn, Nat.zero_le _, by simpa using hn, ?_, ?_, fun i hi => by omega⟩
  · intro p; simp [List.getD, List.getElem?_replicate]; split <;> simp
  · simp

/-- one text more behind: what stood stands -/
theorem Fine.more {H : ByteArray → Nat} {L : List ByteArray} {S : List Nat} {k : Nat} (h : Fine H L S k) (s : ByteArray) : Fine H (L ++ [s]) S k := by
  refine ⟨h.pos, by simp; exact Nat.le_succ_of_le h.le, h.room, h.bound, h.used, fun i hi => ?_⟩
  have : (L ++ [s]).getD i ByteArray.empty = L.getD i ByteArray.empty := by
    have := h.le
    simp [List.getD, List.getElem?_append_left (show i < L.length by omega)]
  rw [this]; exact h.place i hi

/-- the number of slots for so many texts -/
def slotsFrom : Nat → Nat → Nat → Nat
  | 0, _, n => n
  | f + 1, m, n => if 2 * m > n then slotsFrom f m (2 * n) else n
def slots (m : Nat) : Nat := slotsFrom 64 m 16
end Tab
end Go.Proofs.Ytifbilmeecndgaa
