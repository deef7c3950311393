/-
  Plain: the walk of a good part: where it goes, how long it is, and that the document's answer is the same. Plain: the document's circle is the walker's; what the circle is.
-/
import Derived.Test.YtnlaonppgebpoaaLassoCyc
namespace Go.Proofs.Ytnlaonppgebpoaa

theorem mask_in {n : Nat} {part : List Int} (hin : ∀ x ∈ part, ∃ i : Nat, x = (i : Int) ∧ i < n) {x : Int} : (inB (maskL n part) x = true ∧ 0 ≤ x) ↔ x ∈ part := by
  unfold inB
  rw [Bool.and_eq_true, decide_eq_true_iff, maskL_len]
  constructor
  · rintro ⟨⟨h1, h2⟩, h0⟩
    have h3 : x.toNat < n := by omega
    have := (maskL_get h3).1 h2
    rwa [Int.toNat_of_nonneg h0] at this
  · intro hx
    obtain ⟨i, rfl, hi⟩ := hin x hx
    exact ⟨⟨by omega, (maskL_get (by simpa using hi)).2 (by simpa using hx)⟩, by omega⟩
theorem mask_get {n : Nat} {part : List Int} (hin : ∀ x ∈ part, ∃ i : Nat, x = (i : Int) ∧ i < n) {i : Nat} : (maskL n part).getD i false = true ↔ (i : Int) ∈ part := by
  by_cases hi : i < n
  · exact maskL_get hi
  · constructor
    · intro h
      rw [List.getD_eq_getElem?_getD, List.getElem?_eq_none (by rw [maskL_len]; omega)] at h
      cases h
    · intro h
      obtain ⟨j, e, hj⟩ := hin _ h
      omega
/-- edges of one node, by one agent, are one -/
def OnceP (g : Gr) : Prop := ∀ e ∈ allL g, ∀ f ∈ allL g, e.1 = f.1 → e.2.1 = f.2.1 → e = f
theorem nxt_edge {g : Gr} (ho : OnceP g) {y a z : Int} (h : (y, a, z) ∈ allL g) : nxt g y a = z := by
  unfold nxt nxtE
  cases hf : (outL g y).find? (fun e => decide (e.2.1 = a)) with
  | none =>
    rw [List.find?_eq_none] at hf
    exact absurd (hf (y, a, z) (outL_mem.2 ⟨h, rfl⟩)) (by simp)
  | some e =>
    have h1 := outL_mem.1 (List.mem_of_find?_eq_some hf)
    have h2 : e.2.1 = a := by have := List.find?_some hf; simpa using this
    rw [ho e h1.1 (y, a, z) h h1.2 h2]
theorem fol_one {g : Gr} (hR : Rt g) (ho : OnceP g) {y a z : Int} (h : (y, a, z) ∈ allL g) : folL g y [a] = z := by
  have h1 := allL_mem hR h
  have h2 := nodesN_right hR
  simp only at h1
  unfold folL
  rw [if_pos (by omega), folK, nxt_edge ho h, if_neg (by omega)]
  rfl
theorem folK_snoc {g : Gr} {a : Int} : ∀ (p : List Int) (x : Int), folK g x p ≠ -1 → folK g x (p ++ [a]) = nxt g (folK g x p) a
  | [], x, _ => by
    show (if nxt g x a = -1 then -1 else nxt g x a) = nxt g x a
    by_cases h : nxt g x a = -1
    · rw [if_pos h, h]
    · rw [if_neg h]
  | b :: p, x, h => by
    rw [folK] at h
    by_cases hb : nxt g x b = -1
    · rw [if_pos hb] at h; exact absurd rfl h
    · rw [if_neg hb] at h
      rw [List.cons_append, folK, if_neg hb, folK, if_neg hb]
      exact folK_snoc p _ h

/-- the walker's way so far -/
structure InvS (g : Gr) (part : List Int) (home : Int) (s : WS) : Prop where
  at_ : s.1 ∈ part
  len : s.2.2.length = s.2.1.length + 1
  last : s.2.2.getD s.2.1.length 0 = s.1
  hd : s.2.2.getD 0 0 = home
  step : ∀ i, i < s.2.1.length → (s.2.2.getD i 0, s.2.1.getD i 0, s.2.2.getD (i + 1) 0) ∈ allL g ∧ s.2.2.getD i 0 ∈ part ∧ s.2.2.getD (i + 1) 0 ∈ part
theorem getD_app {l : List Int} {x : Int} {i : Nat} (h : i ≤ l.length) : (l ++ [x]).getD i 0 = if i < l.length then l.getD i 0 else x := by
  by_cases h1 : i < l.length
  · rw [if_pos h1]; simp [List.getD_eq_getElem?_getD, List.getElem?_append_left h1]
  · rw [if_neg h1]
    obtain rfl : i = l.length := by omega
    simp [List.getD_eq_getElem?_getD]
theorem InvS.start (g : Gr) {part : List Int} {home : Int} (h : home ∈ part) : InvS g part home (home, [], [home]) := ⟨h, rfl, rfl, rfl, fun i hi => by simp at hi⟩
theorem InvS.act {g : Gr} (hR : Rt g) (ho : OnceP g) {part : List Int} {home : Int} {s : WS} (h : InvS g part home s) {a z : Int} (he : (s.1, a, z) ∈ allL g) (hz : z ∈ part) : InvS g part home (actW g s a) ∧ (actW g s a).1 = z ∧ (actW g s a).2.1 = s.2.1 ++ [a] := by
  have hf := fol_one hR ho he
  have hl := h.len
  unfold actW
  rw [hf]
  refine ⟨⟨hz, by simp only [List.length_append, List.length_singleton]; omega, ?_, ?_, ?_⟩, rfl, rfl⟩
  · simp only [List.length_append, List.length_singleton]
    rw [getD_app (by omega), if_neg (by omega)]
  · show (s.2.2 ++ [z]).getD 0 0 = home
    rw [getD_app (by omega), if_pos (by omega)]; exact h.hd
  · intro i hi
    simp only [List.length_append, List.length_singleton] at hi
    show ((s.2.2 ++ [z]).getD i 0, (s.2.1 ++ [a]).getD i 0, (s.2.2 ++ [z]).getD (i + 1) 0) ∈ allL g ∧ (s.2.2 ++ [z]).getD i 0 ∈ part ∧ (s.2.2 ++ [z]).getD (i + 1) 0 ∈ part
    rw [getD_app (by omega), if_pos (show i < s.2.2.length by omega), getD_app (l := s.2.1) (by omega), getD_app (i := i + 1) (by omega)]
    by_cases e : i < s.2.1.length
    · rw [if_pos e, if_pos (by omega)]; exact h.step i e
    · obtain rfl : i = s.2.1.length := by omega
      rw [if_neg e, if_neg (by omega), h.last]
      exact ⟨he, h.at_, hz⟩
theorem runW_went (g : Gr) : ∀ (l : List Int) (s : WS), (runW g s l).2.1 = s.2.1 ++ l
  | [], s => by simp [runW]
  | a :: l, s => by
    have := runW_went g l (actW g s a)
    unfold runW at this ⊢
    rw [List.foldl_cons, this]
    simp [actW]
theorem runW_snoc (g : Gr) (s : WS) (l : List Int) (a : Int) : runW g s (l ++ [a]) = actW g (runW g s l) a := by unfold runW; rw [List.foldl_append]; rfl
theorem InvS.run {g : Gr} (hR : Rt g) (ho : OnceP g) {n : Nat} {part : List Int} (hin : ∀ x ∈ part, ∃ i : Nat, x = (i : Int) ∧ i < n) {home : Int} {s : WS} (h : InvS g part home s) {p : List Int} {y : Int} (hw : Way g (maskL n part) s.1 p y) : InvS g part home (runW g s p) ∧ (runW g s p).1 = y := by
  induction hw with
  | nil => exact ⟨h, rfl⟩
  | snoc p y a z _ he hz ih =>
    rw [runW_snoc]
    obtain ⟨h1, h2⟩ := ih
    have hz0 := (allL_mem hR he).2.2.1
    obtain ⟨q1, q2, -⟩ := h1.act hR ho (a := a) (z := z) (by rw [h2]; exact he) ((mask_in hin).1 ⟨hz, hz0⟩)
    exact ⟨q1, q2⟩
/-- by some nodes of one piece there is a way from each to each -/
theorem one_way {g : Gr} (hR : Rt g) (hS : g.S.length ≤ 100000) {part : List Int} (hin : ∀ x ∈ part, ∃ i : Nat, x = (i : Int) ∧ i < nodesN g) (hone : (withinI g (maskL (nodesN g) part)).length = 1) {x y : Int} (hx : x ∈ part) (hy : y ∈ part) : ∃ p, Way g (maskL (nodesN g) part) x p y := by
  obtain ⟨-, hsc⟩ := (within_one hR hS).1 hone
  obtain ⟨i, rfl, hi⟩ := hin x hx
  obtain ⟨j, rfl, hj⟩ := hin y hy
  have hp := (hsc i j hi hj ((mask_get hin).2 hx) ((mask_get hin).2 hy)).1
  clear hx hy hj
  induction hp with
  | refl => exact ⟨[], .nil⟩
  | @step j k h1 he ih =>
    obtain ⟨p, hw⟩ := ih
    obtain ⟨⟨e, he1, e1, e2⟩, -, hb⟩ := (eg_keep hR hS _ _ _).1 he
    refine ⟨p ++ [e.2.1], .snoc _ _ _ _ hw ?_ ((mask_in hin).2 ((mask_get hin).1 hb)).1⟩
    rw [← e1, ← e2]; exact he1
theorem leastL_mem {l : List Int} (h : 0 < l.length) : leastL l ∈ l := by
  have key : ∀ k, k ≤ l.length → leastK l k ∈ l := by
    intro k
    induction k with
    | zero => intro _; exact getD_mem h
    | succ k ih =>
      intro hk
      rw [leastK_succ (by omega)]
      have h1 := ih (by omega)
      have h2 : l.getD k 0 ∈ l := getD_mem (by omega)
      rcases Int.le_total (leastK l k) (l.getD k 0) with q | q
      · rw [Int.min_eq_left q]; exact h1
      · rw [Int.min_eq_right q]; exact h2
  rw [← leastK_all]
  exact key _ (Nat.le_refl _)

/-- a good part of a right table, no node with two edges of one agent -/
structure LP (g : Gr) (en : List (List Bool)) (A : Nat) (mode : Int) (part : List Int) : Prop where
  R : Rt g
  hS : g.S.length ≤ 100000
  len : en.length = nodesN g
  hA : A ≤ 100
  nd : part.Nodup
  inn : ∀ x ∈ part, ∃ i : Nat, x = (i : Int) ∧ i < nodesN g
  one : (withinI g (maskL (nodesN g) part)).length = 1
  ags : ∀ e ∈ allL g, 0 ≤ e.2.1 ∧ e.2.1 < (A : Int)
  once : OnceP g
  cyc : cycB g part = true
  weak : mode = 1 → ∀ a, a < A → actB g part (a : Int) = false → ∃ x ∈ part, (en.getD x.toNat []).getD a false = false
  strong : mode = 2 → ∀ a, a < A → actB g part (a : Int) = false → ∀ x ∈ part, (en.getD x.toNat []).getD a false = false
theorem LP.ne {g : Gr} {en : List (List Bool)} {A : Nat} {mode : Int} {part : List Int} (h : LP g en A mode part) : 0 < part.length := cyc_pos h.cyc
theorem LP.of {g : Gr} {en : List (List Bool)} {A : Nat} {mode : Int} {part : List Int} (hS : g.S.length ≤ 100000) (ho : OnceP g) (hg : goodB g en (A : Nat) mode part = true) : LP g en A mode part := by
  obtain ⟨hRT, ⟨hnd, hin⟩, hone, hf⟩ := goodB_iff.1 hg
  have hcyc : cycB g part = true := hf.elim (fun z => (fair_iff.1 z.2).1) (fun z => (fair_iff.1 z.2).1)
  refine ⟨hRT.right, hS, hRT.len, by have := hRT.h1; omega, hnd, hin, hone, fun e he => ⟨(allL_mem hRT.right he).2.2.2.2, (hRT.edges e he).1⟩, ho, hcyc, fun hm a ha hna => ?_, fun hm a ha hna x hx => ?_⟩
  · have h2 := (fair_iff.1 (hf.resolve_right (fun z => absurd z.1 (by omega))).2).2 a (by simpa using ha)
    unfold spB spW at h2
    rw [hna] at h2
    have h3 : cntN en part a ≠ part.length := by simpa using h2
    refine Classical.byContradiction fun hn => h3 (cntN_all.2 fun x hx => ?_)
    cases hv : (en.getD x.toNat []).getD a false
    · exact absurd ⟨x, hx, hv⟩ hn
    · rfl
  · have h2 := (fair_iff.1 (hf.resolve_left (fun z => absurd z.1 (by omega))).2).2 a (by simpa using ha)
    unfold spB spS at h2
    rw [hna] at h2
    have h3 : ¬ 0 < cntN en part a := by simpa using h2
    cases hv : (en.getD x.toNat []).getD a false
    · rfl
    · refine absurd ?_ h3
      unfold cntN cntK
      rw [List.take_length]
      exact List.length_pos_of_mem (List.mem_filter.2 ⟨hx, hv⟩)
section
variable {g : Gr} {en : List (List Bool)} {A : Nat} {mode : Int} {part : List Int}
theorem actsP_iff (h : LP g en A mode part) {a : Int} {i : Nat} : actsP g (maskL (nodesN g) part) a i = true ↔ ∃ z, ((i : Int), a, z) ∈ allL g ∧ z ∈ part := by
  unfold actsP
  rw [List.any_eq_true]
  constructor
  · rintro ⟨e, he, hp⟩
    unfold toP at hp
    rw [Bool.and_eq_true, decide_eq_true_iff] at hp
    obtain ⟨h1, h2⟩ := outL_mem.1 he
    have h3 := (allL_mem h.R h1).2.2.1
    have h4 := (mask_get h.inn).1 hp.2
    rw [Int.toNat_of_nonneg h3] at h4
    refine ⟨e.2.2, ?_, h4⟩
    rw [← h2, ← hp.1]; exact h1
  · rintro ⟨z, he, hz⟩
    refine ⟨_, outL_mem.2 ⟨he, rfl⟩, ?_⟩
    have h3 := (allL_mem h.R he).2.2.1
    unfold toP
    rw [Bool.and_eq_true, decide_eq_true_iff]
    refine ⟨rfl, (mask_get h.inn).2 ?_⟩
    simp only at h3 ⊢
    rw [Int.toNat_of_nonneg h3]; exact hz
/-- the first node at which an agent acts -/
theorem actF_cases (h : LP g en A mode part) (a : Nat) : (actF g (maskL (nodesN g) part) (nodesN g) a = -1 ∧ actB g part (a : Int) = false) ∨
    ∃ (i : Nat) (z : Int), actF g (maskL (nodesN g) part) (nodesN g) a = (i : Int) ∧ (i : Int) ∈ part ∧ z ∈ part ∧ ((i : Int), (a : Int), z) ∈ allL g ∧ ∀ e ∈ allL g, e.2.1 = (a : Int) → e.1 ∈ part → e.2.2 ∈ part → (i : Int) ≤ e.1 := by
  unfold actF
  rcases firstN_cases (fun i => (maskL (nodesN g) part).getD i false && actsP g (maskL (nodesN g) part) (a : Int) i) (nodesN g) with ⟨e, hn⟩ | ⟨i, hi, e, hp, hn⟩
  · refine .inl ⟨e, ?_⟩
    cases hb : actB g part (a : Int)
    · rfl
    · obtain ⟨ed, he, h1, h2, h3⟩ := actB_iff.1 hb
      obtain ⟨j, hj, hjn⟩ := h.inn _ h2
      have := hn j hjn
      rw [Bool.and_eq_false_iff] at this
      rw [hj] at h2
      rcases this with q | q
      · rw [(mask_get h.inn).2 h2] at q; cases q
      · rw [(actsP_iff h).2 ⟨ed.2.2, by rw [← hj, ← h1]; exact he, h3⟩] at q; cases q
  · simp only [Bool.and_eq_true] at hp
    obtain ⟨z, hz1, hz2⟩ := (actsP_iff h).1 hp.2
    refine .inr ⟨i, z, e, (mask_get h.inn).1 hp.1, hz2, hz1, fun ed he h1 h2 h3 => ?_⟩
    obtain ⟨j, hj, hjn⟩ := h.inn _ h2
    refine Classical.byContradiction fun hlt => ?_
    have := hn j (by omega)
    rw [Bool.and_eq_false_iff] at this
    rw [hj] at h2
    rcases this with q | q
    · rw [(mask_get h.inn).2 h2] at q; cases q
    · rw [(actsP_iff h).2 ⟨ed.2.2, by rw [← hj, ← h1]; exact he, h3⟩] at q; cases q
theorem idleF_some (h : LP g en A mode part) {a : Nat} (hx : ∃ x ∈ part, (en.getD x.toNat []).getD a false = false) : ∃ i : Nat, idleF en (maskL (nodesN g) part) (nodesN g) a = (i : Int) ∧ (i : Int) ∈ part ∧ (en.getD i []).getD a false = false := by
  unfold idleF
  rcases firstN_cases (idleP en (maskL (nodesN g) part) a) (nodesN g) with ⟨e, hn⟩ | ⟨i, hi, e, hp, -⟩
  · obtain ⟨x, hx1, hx2⟩ := hx
    obtain ⟨j, rfl, hj⟩ := h.inn _ hx1
    have := hn j hj
    unfold idleP at this
    rw [(mask_get h.inn).2 hx1] at this
    simp only [Int.toNat_natCast] at hx2
    rw [hx2] at this
    cases this
  · unfold idleP at hp
    rw [Bool.and_eq_true, Bool.not_eq_true'] at hp
    exact ⟨i, e, (mask_get h.inn).1 hp.1, hp.2⟩
theorem reach_inv (h : LP g en A mode part) {home : Int} {s : WS} (hI : InvS g part home s) {t : Int} (ht : t ∈ part) :
    InvS g part home (reachW g (maskL (nodesN g) part) s t) ∧ (reachW g (maskL (nodesN g) part) s t).1 = t ∧ (reachW g (maskL (nodesN g) part) s t).2.1 = s.2.1 ++ (insL g (maskL (nodesN g) part) s.1 t).getD [] ∧ ((insL g (maskL (nodesN g) part) s.1 t).getD []).length + 1 ≤ part.length := by
  obtain ⟨h1, h2⟩ := (mask_in h.inn).2 hI.at_
  obtain ⟨p, e, hw, hl⟩ := insL_spec (g := g) (inl := maskL (nodesN g) part) (tgt := t) (part := part) h1 h2 (fun x hx h0 => (mask_in h.inn).1 ⟨hx, h0⟩) (one_way h.R h.hS h.inn h.one hI.at_ ht)
  obtain ⟨q1, q2⟩ := hI.run h.R h.once h.inn hw
  unfold reachW
  rw [e]
  exact ⟨q1, q2, runW_went _ _ _, hl⟩
/-- a step for one agent -/
theorem step_inv (h : LP g en A mode part) {home : Int} {s : WS} (hI : InvS g part home s) {a : Nat} (ha : a < A) :
    InvS g part home (stepA g en mode (maskL (nodesN g) part) (nodesN g) s a) ∧ (stepA g en mode (maskL (nodesN g) part) (nodesN g) s a).2.1.length ≤ s.2.1.length + part.length ∧
      (∃ q, (stepA g en mode (maskL (nodesN g) part) (nodesN g) s a).2.1 = s.2.1 ++ q) ∧
      (actB g part (a : Int) = true → (a : Int) ∈ (stepA g en mode (maskL (nodesN g) part) (nodesN g) s a).2.1) ∧
      (actB g part (a : Int) = false → mode = 1 → (en.getD (stepA g en mode (maskL (nodesN g) part) (nodesN g) s a).1.toNat []).getD a false = false) := by
  have hne := h.ne
  rcases actF_cases h a with ⟨e, hb⟩ | ⟨i, z, e, hi, hz, he, -⟩
  · unfold stepA
    rw [if_pos e]
    by_cases hm : mode = 1
    · rw [if_pos hm]
      obtain ⟨i, e1, e2, e3⟩ := idleF_some h (h.weak hm a ha hb)
      rw [e1]
      obtain ⟨q1, q2, q3, q4⟩ := reach_inv h hI e2
      refine ⟨q1, by rw [q3, List.length_append]; omega, ⟨_, q3⟩, fun q => (by rw [hb] at q; cases q), fun _ _ => ?_⟩
      rw [q2, Int.toNat_natCast]; exact e3
    · rw [if_neg hm]
      exact ⟨hI, by omega, ⟨[], by simp⟩, fun q => (by rw [hb] at q; cases q), fun _ q => absurd q hm⟩
  · have hn1 : (i : Int) ≠ -1 := by omega
    have hact : actB g part (a : Int) = true := actB_iff.2 ⟨_, he, rfl, hi, hz⟩
    unfold stepA
    rw [e, if_neg hn1]
    obtain ⟨q1, q2, q3, q4⟩ := reach_inv h hI hi
    obtain ⟨r1, r2, r3⟩ := q1.act h.R h.once (a := (a : Int)) (z := z) (by rw [q2]; exact he) hz
    refine ⟨r1, by rw [r3, q3]; simp only [List.length_append, List.length_singleton]; omega, ⟨_, by rw [r3, q3, List.append_assoc]⟩, fun _ => by rw [r3]; simp, fun q => (by rw [hact] at q; cases q)⟩
theorem wk_inv (h : LP g en A mode part) {home : Int} (hh : home ∈ part) : ∀ k, k ≤ A → InvS g part home (wkA g en mode (maskL (nodesN g) part) (nodesN g) home k) ∧ (wkA g en mode (maskL (nodesN g) part) (nodesN g) home k).2.1.length ≤ k * part.length
  | 0, _ => ⟨InvS.start g hh, by simp [wkA]⟩
  | k + 1, hk => by
    obtain ⟨h1, h2⟩ := wk_inv h hh k (by omega)
    obtain ⟨q1, q2, -⟩ := step_inv h h1 (a := k) (by omega)
    rw [wkA]
    refine ⟨q1, ?_⟩
    rw [Nat.succ_mul]; omega
theorem part_len (h : LP g en A mode part) : part.length ≤ nodesN g := by
  have := nodup_len (a := part) (b := (List.range (nodesN g)).map (fun k : Nat => (k : Int))) h.nd (fun x hx => by
    obtain ⟨i, rfl, hi⟩ := h.inn x hx
    exact List.mem_map.2 ⟨i, List.mem_range.2 hi, rfl⟩)
  simpa using this
theorem gd_ok (h : LP g en A mode part) : GdOk g en (A : Nat) mode part := by
  have hh := leastL_mem h.ne
  have hpl := part_len h
  have hN := nodesN_right h.R
  have hS := h.hS
  refine ⟨⟨fun k hk => ?_, fun k hk hne => ?_, fun k hk hna hm => ?_⟩, (mask_in h.inn).2 hh, h.ne⟩
  · rw [Int.toNat_natCast] at hk
    obtain ⟨h1, h2⟩ := wk_inv h hh k hk
    obtain ⟨m1, m2⟩ := (mask_in h.inn).2 h1.at_
    have h3 : k * part.length ≤ k * 100001 := Nat.mul_le_mul_left _ (by omega)
    refine ⟨m1, m2, by omega, by have := h1.len; omega⟩
  · rcases actF_cases h k with ⟨e, -⟩ | ⟨i, z, e, hi, -⟩
    · exact absurd e hne
    · rw [e]; exact (mask_in h.inn).2 hi
  · rw [Int.toNat_natCast] at hk
    rcases actF_cases h k with ⟨-, hb⟩ | ⟨i, z, e, -⟩
    · obtain ⟨i, e1, e2, -⟩ := idleF_some h (h.weak hm k hk hb)
      rw [e1]; exact (mask_in h.inn).2 e2
    · rw [e] at hna; omega
end
end Go.Proofs.Ytnlaonppgebpoaa

namespace Go.Proofs.Ytnlaonppgebpoaa

section
variable {g : Gr} {en : List (List Bool)} {A : Nat} {mode : Int} {part : List Int}
theorem walk_inv (h : LP g en A mode part) {home : Int} (hh : home ∈ part) : InvS g part home (walkL g en mode (maskL (nodesN g) part) (nodesN g) home A) ∧ (walkL g en mode (maskL (nodesN g) part) (nodesN g) home A).1 = home ∧
    (walkL g en mode (maskL (nodesN g) part) (nodesN g) home A).2.1 = (wkA g en mode (maskL (nodesN g) part) (nodesN g) home A).2.1 ++ (insL g (maskL (nodesN g) part) (wkA g en mode (maskL (nodesN g) part) (nodesN g) home A).1 home).getD [] ∧ (walkL g en mode (maskL (nodesN g) part) (nodesN g) home A).2.1.length ≤ (A + 1) * part.length := by
  obtain ⟨h1, h2⟩ := wk_inv h hh A (Nat.le_refl _)
  obtain ⟨q1, q2, q3, q4⟩ := reach_inv h h1 hh
  refine ⟨q1, q2, q3, ?_⟩
  unfold walkL
  rw [q3, List.length_append, Nat.succ_mul]
  omega
/-- the stops, followed from the first one -/
theorem stops_fol (hR : Rt g) (ho : OnceP g) {home : Int} {s : WS} (hI : InvS g part home s) (hin : ∀ x ∈ part, ∃ i : Nat, x = (i : Int) ∧ i < nodesN g) (hh : home ∈ part) : ∀ i, i ≤ s.2.1.length → folL g home (s.2.1.take i) = s.2.2.getD i 0 := by
  obtain ⟨j, hj, hjn⟩ := hin home hh
  have hr : 0 ≤ home ∧ home < (nodesN g : Int) := by omega
  intro i
  unfold folL
  rw [if_pos hr]
  induction i with
  | zero => intro _; rw [List.take_zero, hI.hd]; rfl
  | succ i ih =>
    intro hi
    have ih := ih (by omega)
    obtain ⟨h1, h2, h3⟩ := hI.step i (by omega)
    have e : s.2.1.take (i + 1) = s.2.1.take i ++ [s.2.1.getD i 0] := by
      rw [List.take_add_one, List.getD_eq_getElem?_getD, List.getElem?_eq_getElem (by omega)]; rfl
    have h0 := (allL_mem hR h1).1
    rw [e, folK_snoc _ _ (by rw [ih]; simp only at h0; omega), ih, nxt_edge ho h1]
theorem stops_list (hR : Rt g) (ho : OnceP g) {home : Int} {s : WS} (hI : InvS g part home s) (hin : ∀ x ∈ part, ∃ i : Nat, x = (i : Int) ∧ i < nodesN g) (hh : home ∈ part) : (List.range (s.2.1.length + 1)).map (fun i => folL g home (s.2.1.take i)) = s.2.2 := by
  refine List.ext_getElem (by rw [List.length_map, List.length_range, hI.len]) fun i h1 h2 => ?_
  rw [List.length_map, List.length_range] at h1
  rw [List.getElem_map, List.getElem_range, stops_fol hR ho hI hin hh i (by omega), List.getD_eq_getElem?_getD, List.getElem?_eq_getElem h2]
  rfl
end
theorem gdG_ok {g : Gr} {en : List (List Bool)} {ag mode : Int} {part : List Int} (hS : g.S.length ≤ 1000) (ho : OnceP g) (hg : goodB g en ag mode part = true) : GdOk g en ag mode part := by
  have e := goodB_nat hg
  obtain ⟨A, rfl⟩ : ∃ A : Nat, ag = (A : Int) := ⟨_, e⟩
  exact gd_ok (LP.of (by omega) ho hg)
end Go.Proofs.Ytnlaonppgebpoaa
