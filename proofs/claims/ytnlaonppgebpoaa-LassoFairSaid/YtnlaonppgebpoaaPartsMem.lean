/-
  The parts of a graph: plain. scc.Parts: its memory.
-/
import Derived.Test.YtnlaonppgebpoaaGrp
import Derived.Test.YtnlaonppgebpoaaRunMem
import Derived.Test.YtnlaonppgebpoaaReach
import Derived.Test.YtnlaonppgebpoaaRowsM
namespace Go.Proofs.Ytnlaonppgebpoaa

def Eg (g : Gr) (a b : Nat) : Prop := ∃ e ∈ allL g, e.1 = (a : Int) ∧ e.2.2 = (b : Int)
/-- in one part -/
def SC (g : Gr) (i k : Nat) : Prop := Pth (Eg g) i k ∧ Pth (Eg g) k i
theorem SC.refl (g : Gr) (i : Nat) : SC g i i := ⟨.refl i, .refl i⟩
theorem SC.symm {g : Gr} {i k : Nat} (h : SC g i k) : SC g k i := ⟨h.2, h.1⟩
theorem SC.trans {g : Gr} {i k j : Nat} (h : SC g i k) (h2 : SC g k j) : SC g i j := ⟨h.1.trans h2.1, h2.2.trans h.2⟩
noncomputable def scF (g : Gr) (i : Nat) : Nat := leastN (fun k => SC g i k)
theorem scF_self (g : Gr) (i : Nat) : SC g i (scF g i) := (leastN_spec (p := fun k => SC g i k) ⟨i, SC.refl g i⟩).1
theorem scF_iff {g : Gr} {i k : Nat} : scF g i = scF g k ↔ SC g i k := by
  constructor
  · intro h
    have a := scF_self g i
    have b := scF_self g k
    rw [h] at a
    exact a.trans b.symm
  · intro h
    have e : (fun j => SC g i j) = (fun j => SC g k j) := by
      funext j
      exact propext ⟨fun q => h.symm.trans q, fun q => h.trans q⟩
    unfold scF
    rw [e]
noncomputable def partsL (g : Gr) : List Nat := (cnS (eqB (scF g)) (nodesN g)).1
noncomputable def partN (g : Gr) (i : Nat) : Nat := cnV (eqB (scF g)) i
theorem partsL_len (g : Gr) : (partsL g).length = nodesN g := cnS_len _ _
theorem partsL_get {g : Gr} {i : Nat} (h : i < nodesN g) : (partsL g).getD i 0 = partN g i := cnS_getD _ _ _ h
theorem partN_eq {g : Gr} {i k : Nat} : partN g i = partN g k ↔ SC g i k := by
  unfold partN
  rw [cnV_eq (max i k + 1) i k (by omega) (by omega)]
  exact scF_iff
theorem partN_lt {g : Gr} {i : Nat} (h : i < nodesN g) : partN g i < nodesN g := Nat.lt_of_lt_of_le (cnV_lt _ _ _ h) (cnS_next_le _ _)
theorem partsL_congr {g : Gr} {E : Nat → Nat → Bool} (h : ∀ i k, i < nodesN g → k < i → (E i k = true ↔ SC g i k)) : (cnS E (nodesN g)).1 = partsL g := by
  unfold partsL
  rw [cnS_congr (nodesN g) (fun i k hi hk => ?_)]
  have := h i k hi hk
  rw [← scF_iff] at this
  show E i k = decide (scF g i = scF g k)
  cases e : E i k
  · simp only [e, Bool.false_eq_true, false_iff] at this
    simp [this]
  · simp only [e, true_iff] at this
    simp [this]
/-- what is reached of one node -/
theorem rch_pth {g : Gr} (h : Rt g) {n i : Nat} {j : Int} (hr : Rch (allL g) (Src n [(i : Int)]) j) : 0 ≤ j ∧ Pth (Eg g) i j.toNat := by
  induction hr with
  | base hb =>
    obtain ⟨h1, h2, -⟩ := hb
    obtain rfl : _ = (i : Int) := by simpa using h1
    exact ⟨h2, by simpa using Pth.refl i⟩
  | step _ he ih =>
    have hm := allL_mem h he
    exact ⟨by omega, .step ih.2 ⟨_, he, by omega, by omega⟩⟩
theorem pth_rch {g : Gr} {n i j : Nat} (hi : i < n) (hp : Pth (Eg g) i j) : Rch (allL g) (Src n [(i : Int)]) (j : Int) := by
  induction hp with
  | refl => exact .base ⟨by simp, by omega, by omega⟩
  | step _ he ih =>
    obtain ⟨e, he, h1, h2⟩ := he
    have := ih
    rw [← h1] at this
    rw [← h2]
    exact .step this he
theorem reach_pth {g : Gr} (h : Rt g) {i j : Nat} (hi : i < nodesN g) (hj : j < nodesN g) : (reachL g [(i : Int)]).getD j false = true ↔ Pth (Eg g) i j := by
  rw [reachL_get h _ hj]
  exact ⟨fun q => by simpa using (rch_pth h q).2, fun q => pth_rch hi q⟩
/-- the graph that the search sees -/
def tgOf (g : Gr) (h : Rt g) : TG where
  n := nodesN g
  S := st g
  T := fun k => (g.T.getD k 0).toNat
  hT := fun x k hx h1 h2 => by
    have hn := nodesN_right h
    have := h.stTop (i := x + 1) (by omega)
    have := h.tos k (by omega)
    omega
  hS := fun x hx => by
    have hn := nodesN_right h
    exact h.stLe (Nat.le_succ x) (by omega)
theorem mem_eds {g : Gr} {i : Nat} {e : Ed} : e ∈ eds g i ↔ ∃ k, st g i ≤ k ∧ k < st g (i + 1) ∧ edge g i k = e := by
  simp only [eds, edsN, List.mem_map, List.mem_range'_1]
  constructor
  · rintro ⟨k, ⟨h1, h2⟩, h3⟩; exact ⟨k, h1, by omega, h3⟩
  · rintro ⟨k, h1, h2, h3⟩; exact ⟨k, ⟨h1, by omega⟩, h3⟩
theorem mem_all {g : Gr} (h : Rt g) {e : Ed} : e ∈ allL g ↔ ∃ i, i < nodesN g ∧ e ∈ eds g i := by
  rw [allL_right h, span_flat, List.mem_flatMap, nodesN_right h]
  simp only [List.mem_range]
theorem tgOf_E {g : Gr} (h : Rt g) (x y : Nat) : (tgOf g h).E x y ↔ Eg g x y := by
  have hn := nodesN_right h
  constructor
  · rintro ⟨hx, k, h1, h2, h3⟩
    have hx' : x < nodesN g := hx
    have ht := h.stTop (i := x + 1) (by omega)
    have h2' : k < st g (x + 1) := h2
    have := h.tos k (by omega)
    have h3' : (g.T.getD k 0).toNat = y := h3
    exact ⟨edge g x k, (mem_all h).2 ⟨x, hx, mem_eds.2 ⟨k, h1, h2, rfl⟩⟩, rfl, show g.T.getD k 0 = (y : Int) by omega⟩
  · rintro ⟨e, he, h1, h2⟩
    obtain ⟨i, hi, he⟩ := (mem_all h).1 he
    obtain ⟨k, k1, k2, rfl⟩ := mem_eds.1 he
    have e1 : (i : Int) = (x : Int) := h1
    obtain rfl : i = x := by omega
    have h2' : g.T.getD k 0 = (y : Int) := h2
    exact ⟨hi, k, k1, k2, show (g.T.getD k 0).toNat = y by omega⟩
theorem tgOf_Efun {g : Gr} (h : Rt g) : (tgOf g h).E = Eg g := by
  funext x y
  exact propext (tgOf_E h x y)
/-- the search's parts at its end -/
theorem parts_end {g : Gr} (h : Rt g) {s : TS} {num0 : Nat → Int} (hI : RunInv (tgOf g h) num0 s) (hc : s.calls = []) (hs : ∀ x, x < nodesN g → 0 ≤ s.num x) :
    (cnS (eqB s.part) (nodesN g)).1 = partsL g := by
  refine partsL_congr fun i k hi hk => ?_
  have := hI.inv.partEq i k (hs i hi) (hI.off hc i) (hs k (by omega)) (hI.off hc k)
  rw [tgOf_Efun h] at this
  simpa [eqB, SC] using this
end Go.Proofs.Ytnlaonppgebpoaa

namespace Go.Proofs.Ytnlaonppgebpoaa
open Go.RowKit

theorem mints (n : Nat) : madeCells #[Value.int .i64 0] n = ints (tab n (fun _ => 0)) := by
  have : tab n (fun _ => (0 : Int)) = List.replicate n 0 := by unfold tab; simp [List.map_const']
  rw [this, ints_replicate, ← madeCells_one]
theorem mbools (n : Nat) : madeCells #[Value.bool false] n = bools (tab n (fun _ => false)) := by
  have : tab n (fun _ => false) = List.replicate n false := by unfold tab; simp [List.map_const']
  rw [this, bools_replicate, ← madeCells_one]
/-- zeros of their own -/
def ZI (wr : World) (n : Nat) (v : Value) (w' : World) : Prop := ∃ b, v = slV b n ∧ wr.heap.size ≤ b ∧ w'.heap[b]? = some (.cells (ints (tab n (fun _ => 0))) 3 (0, 0))
def ZB (wr : World) (n : Nat) (v : Value) (w' : World) : Prop := ∃ b, v = slV b n ∧ wr.heap.size ≤ b ∧ w'.heap[b]? = some (.cells (bools (tab n (fun _ => false))) 4 (0, 0))
/-- the four rows -/
structure FourM (wr w' : World) (n bn bl bo bp : Nat) : Prop where
  hn : w'.heap[bn]? = some (.cells (ints (tab n (fun _ => 0))) 3 (0, 0))
  hl : w'.heap[bl]? = some (.cells (ints (tab n (fun _ => 0))) 3 (0, 0))
  ho : w'.heap[bo]? = some (.cells (bools (tab n (fun _ => false))) 4 (0, 0))
  hp : w'.heap[bp]? = some (.cells (ints (tab n (fun _ => 0))) 3 (0, 0))
  d : (wr.heap.size ≤ bn ∧ wr.heap.size ≤ bl ∧ wr.heap.size ≤ bo ∧ wr.heap.size ≤ bp) ∧ bn ≠ bl ∧ bn ≠ bo ∧ bn ≠ bp ∧ bl ≠ bo ∧ bl ≠ bp ∧ bo ≠ bp
def mkI (i : Nat) : Bool := i == 2 || i == 4 || i == 6 || i == 8
/-- what each operation of the making region yields -/
def ptR (w wr : World) (gS gA gT : Value) (n : Nat) (i : Nat) (v : Value) (w' : World) : Prop :=
  match i with
  | 0 => v = .agg #[gS, gA, gT]
  | 2 => ZI wr n v w'
  | 4 => ZI wr n v w'
  | 6 => ZB wr n v w'
  | 8 => ZI wr n v w'
  | 9 => ∃ bn bl bo bp, v = .agg #[gS, gA, gT, slV bn n, slV bl n, slV bo n, .slice none 0 0, slV bp n, .int .i64 0, .slice none 0 0] ∧ FourM wr w' n bn bl bo bp
  | 10 => ∃ sb bn bl bo bp base, v = .pointer (some ⟨sb, 0, none⟩) ∧ SrM w w' gS gA gT sb bn bl bo bp base n (fun _ => 0) (fun _ => 0) (fun _ => false) [] (fun _ => 0) 0 [] (.slice none 0 0) (.slice none 0 0)
  | 11 => ∃ sb bn bl bo bp base, v = .pointer (some ⟨sb, 0, none⟩) ∧ SrM w w' gS gA gT sb bn bl bo bp base n (fun _ => 0) (fun _ => 0) (fun _ => false) [] (fun _ => 0) 0 [] (.slice none 0 0) (.slice none 0 0)
  | _ => v = .int .i64 (n : Nat)
def ptS (i j : Nat) (u v : Value) : Prop := mkI i = true → mkI j = true → u.ownBlock ≠ v.ownBlock
theorem ptR_mono {w wr : World} {gS gA gT : Value} {n i : Nat} {u : Value} {a b : World} (hb : Below a.heap.size a b) (h : ptR w wr gS gA gT n i u a) : ptR w wr gS gA gT n i u b := by
  unfold ptR at h ⊢
  split at h
  · exact h
  · obtain ⟨x, e, hx, hh⟩ := h; exact ⟨x, e, hx, bheap hb hh⟩
  · obtain ⟨x, e, hx, hh⟩ := h; exact ⟨x, e, hx, bheap hb hh⟩
  · obtain ⟨x, e, hx, hh⟩ := h; exact ⟨x, e, hx, bheap hb hh⟩
  · obtain ⟨x, e, hx, hh⟩ := h; exact ⟨x, e, hx, bheap hb hh⟩
  · obtain ⟨x, y, z, t, e, h⟩ := h; exact ⟨x, y, z, t, e, bheap hb h.hn, bheap hb h.hl, bheap hb h.ho, bheap hb h.hp, h.d⟩
  · obtain ⟨s, x, y, z, t, q, e, h⟩ := h; exact ⟨s, x, y, z, t, q, e, h.more hb⟩
  · obtain ⟨s, x, y, z, t, q, e, h⟩ := h; exact ⟨s, x, y, z, t, q, e, h.more hb⟩
  · exact h
theorem ptS_no {w wr : World} {gS gA gT : Value} {n j : Nat} {w' : World} {v : Value} (h : mkI j = false) : ∀ i u, i ≠ j → ptR w wr gS gA gT n i u w' → ptS i j u v ∧ ptS j i v u :=
  fun i u _ _ => ⟨fun _ h2 => (by rw [h] at h2; cases h2), fun h2 _ => (by rw [h] at h2; cases h2)⟩
theorem pt_old {w wr : World} {gS gA gT : Value} {n i : Nat} {u : Value} {w' : World} (hi : mkI i = true) (h : ptR w wr gS gA gT n i u w') : ∃ b, u = slV b n ∧ wr.heap.size ≤ b ∧ b < w'.heap.size := by
  have : i = 2 ∨ i = 4 ∨ i = 6 ∨ i = 8 := by simpa [mkI, or_assoc] using hi
  rcases this with rfl | rfl | rfl | rfl
  all_goals
    obtain ⟨b, e, hb, hh⟩ := h
    exact ⟨b, e, hb, (Array.getElem?_eq_some_iff.1 hh).1⟩
theorem ptS_new {w wr : World} {gS gA gT : Value} {j : Nat} {w' : World} (n : Nat) : ∀ i u, i ≠ j → ptR w wr gS gA gT n i u w' → ptS i j u (slV w'.heap.size n) ∧ ptS j i (slV w'.heap.size n) u := by
  intro i u _ h
  refine ⟨fun hi _ e => ?_, fun _ hi e => ?_⟩
  · obtain ⟨b, rfl, -, hb⟩ := pt_old hi h
    simp [Value.ownBlock] at e
    omega
  · obtain ⟨b, rfl, -, hb⟩ := pt_old hi h
    simp [Value.ownBlock] at e
    omega
theorem pt_new_i (w wr : World) (gS gA gT : Value) (n : Nat) (w' : World) (hw : wr.heap.size ≤ w'.heap.size) (i : Nat) (hi : i = 2 ∨ i = 4 ∨ i = 8) : ptR w wr gS gA gT n i (slV w'.heap.size n) (w'.alloc (.cells (madeCells #[.int .i64 0] n) 3)) := by
  have : ZI wr n (slV w'.heap.size n) (w'.alloc (.cells (madeCells #[.int .i64 0] n) 3)) := ⟨_, rfl, hw, by rw [heap_alloc_new, mints]⟩
  rcases hi with rfl | rfl | rfl <;> exact this
theorem pt_new_b (w wr : World) (gS gA gT : Value) (n : Nat) (w' : World) (hw : wr.heap.size ≤ w'.heap.size) (i : Nat) (hi : i = 6) : ptR w wr gS gA gT n i (slV w'.heap.size n) (w'.alloc (.cells (madeCells #[.bool false] n) 4)) := by
  subst hi
  exact ⟨_, rfl, hw, by rw [heap_alloc_new, mbools]⟩
/-- the four rows, apart -/
theorem pt_four {w wr : World} {gS gA gT : Value} {n : Nat} {w' : World} {a b c e : Value} (h2 : ptR w wr gS gA gT n 2 a w') (h4 : ptR w wr gS gA gT n 4 b w') (h6 : ptR w wr gS gA gT n 6 c w') (h8 : ptR w wr gS gA gT n 8 e w')
    (s1 : ptS 2 4 a b) (s2 : ptS 2 6 a c) (s3 : ptS 2 8 a e) (s4 : ptS 4 6 b c) (s5 : ptS 4 8 b e) (s6 : ptS 6 8 c e) :
    ∃ bn bl bo bp, a = slV bn n ∧ b = slV bl n ∧ c = slV bo n ∧ e = slV bp n ∧ FourM wr w' n bn bl bo bp := by
  obtain ⟨bn, rfl, l1, g1⟩ := h2
  obtain ⟨bl, rfl, l2, g2⟩ := h4
  obtain ⟨bo, rfl, l3, g3⟩ := h6
  obtain ⟨bp, rfl, l4, g4⟩ := h8
  have t1 := s1 rfl rfl
  have t2 := s2 rfl rfl
  have t3 := s3 rfl rfl
  have t4 := s4 rfl rfl
  have t5 := s5 rfl rfl
  have t6 := s6 rfl rfl
  simp [Value.ownBlock] at t1 t2 t3 t4 t5 t6
  exact ⟨bn, bl, bo, bp, rfl, rfl, rfl, rfl, g1, g2, g3, g4, ⟨l1, l2, l3, l4⟩, t1, t2, t3, t4, t5, t6⟩
theorem pt_box {w wr w' : World} {n bn bl bo bp : Nat} {gS gA gT : Value} (h0 : Below w.heap.size w wr) (hb : Below wr.heap.size wr w') (h : FourM wr w' n bn bl bo bp) :
    SrM w (w'.alloc (.cells #[gS, gA, gT, slV bn n, slV bl n, slV bo n, .slice none 0 0, slV bp n, .int .i64 0, .slice none 0 0] 82)) gS gA gT w'.heap.size bn bl bo bp (w'.heap.size + 1) n (fun _ => 0) (fun _ => 0) (fun _ => false) [] (fun _ => 0) 0 [] (.slice none 0 0) (.slice none 0 0) := by
  have hk := balloc w' (.cells #[gS, gA, gT, slV bn n, slV bl n, slV bo n, .slice none 0 0, slV bp n, .int .i64 0, .slice none 0 0] 82)
  have z0 := h0.size
  have z1 := hb.size
  have l1 := (Array.getElem?_eq_some_iff.1 h.hn).1
  have l2 := (Array.getElem?_eq_some_iff.1 h.hl).1
  have l3 := (Array.getElem?_eq_some_iff.1 h.ho).1
  have l4 := (Array.getElem?_eq_some_iff.1 h.hp).1
  obtain ⟨d1, d2⟩ := h.d
  exact ⟨(h0.trans (hb.mono z0)).trans (hk.mono (by omega)), heap_alloc_new _ _, bheap hk h.hn, bheap hk h.hl, bheap hk h.ho, bheap hk h.hp, World.ownsRow_nil _ _ _ _, World.ownsRow_nil _ _ _ _,
    ⟨by omega, by omega, by omega⟩, by simp⟩
section
variable {w wr : World} {gS gA gT : Value} {sb bn bl bo bp base n : Nat} {num num' low : Nat → Int} {on : Nat → Bool} {nodes : List Nat} {part : Nat → Int} {parts : Nat} {calls : List (Nat × Nat)} {nv cv : Value}
theorem tab_same {α : Type} {f f' : Nat → α} (h : ∀ x, x < n → f x = f' x) : tab n f = tab n f' := by
  unfold tab
  exact List.map_congr_left fun x hx => h x (List.mem_range.1 hx)
theorem SrM.numEq (h : SrM w wr gS gA gT sb bn bl bo bp base n num low on nodes part parts calls nv cv) (e : ∀ x, x < n → num x = num' x) : SrM w wr gS gA gT sb bn bl bo bp base n num' low on nodes part parts calls nv cv :=
  ⟨h.below, h.hs, by rw [← tab_same e]; exact h.hn, h.hl, h.ho, h.hp, h.rn, h.rc, h.d, h.hb⟩
end
/-- what the naming needs -/
structure PtM (w wr : World) (sb bp n : Nat) (part : Nat → Int) : Prop where
  below : Below w.heap.size w wr
  hs : ∃ c, c[7]? = some (slV bp n) ∧ wr.heap[sb]? = some (.cells c 82 (0, 0))
  hp : wr.heap[bp]? = some (.cells (ints (tab n part)) 3 (0, 0))
  d : w.heap.size ≤ sb ∧ w.heap.size ≤ bp ∧ sb ≠ bp
theorem SrM.pt {w wr : World} {gS gA gT : Value} {sb bn bl bo bp base n : Nat} {num low : Nat → Int} {on : Nat → Bool} {nodes : List Nat} {part : Nat → Int} {parts : Nat} {calls : List (Nat × Nat)} {nv cv : Value}
    (h : SrM w wr gS gA gT sb bn bl bo bp base n num low on nodes part parts calls nv cv) : PtM w wr sb bp n part :=
  ⟨h.below, ⟨_, rfl, h.hs⟩, h.hp, by obtain ⟨d1, d2, d3⟩ := h.d; omega⟩
section
variable {w wr w' : World} {sb bp n : Nat} {part : Nat → Int}
theorem PtM.drew (h : PtM w wr sb bp n part) : PtM w wr.drew sb bp n part := ⟨h.below.drew, h.hs, h.hp, h.d⟩
theorem PtM.more (h : PtM w wr sb bp n part) (hb : Below wr.heap.size wr w') : PtM w w' sb bp n part := by
  obtain ⟨c, hc, hs⟩ := h.hs
  exact ⟨h.below.trans (hb.mono h.below.size), ⟨c, hc, bheap hb hs⟩, bheap hb h.hp, h.d⟩
theorem PtM.grown (h : PtM w wr sb bp n part) {mb : Nat} (hg : wr.grownBy w' (some mb)) (hm : w.heap.size ≤ mb) (h1 : mb ≠ sb) (h2 : mb ≠ bp) : PtM w w' sb bp n part := by
  obtain ⟨c, hc, hs⟩ := h.hs
  have hf : Frm (fun q => q = mb) wr w' := (Frm.refl _ wr).grown hg (fun k hk _ => by cases hk; rfl)
  exact ⟨h.below.grown hg h.below.size (fun k hk => by cases hk; exact hm), ⟨c, hc, hf.heap hs (fun e => h1 e.symm)⟩, hf.heap h.hp (fun e => h2 e.symm), h.d⟩
theorem PtM.set (h : PtM w wr sb bp n part) (k : Nat) (v : Int) : PtM w (wr.setCell ⟨bp, k, none⟩ (.int .i64 v)) sb bp n (upd part k v) := by
  obtain ⟨c, hc, hs⟩ := h.hs
  obtain ⟨d1, d2, d3⟩ := h.d
  have hf : Frm (fun q => q = bp) wr (wr.setCell ⟨bp, k, none⟩ (.int .i64 v)) := (Frm.refl (fun q => q = bp) wr).setCell (p := ⟨bp, k, none⟩) (fun _ => rfl) _
  refine ⟨h.below.setCell (p := ⟨bp, k, none⟩) d2 _, ⟨c, hc, hf.heap hs d3⟩, ?_, h.d⟩
  rw [heap_setCell_block h.hp, ints_set, tab_upd]
theorem PtM.cell (h : PtM w wr sb bp n part) {k : Nat} (hk : k < n) : wr.cell? ⟨bp, k, none⟩ = some (.int .i64 (part k)) := by
  have := cell_of_block h.hp k _ (ints_get _ k (by rw [tab_len]; exact hk))
  rwa [tab_get _ _ _ _ hk] at this
theorem PtM.free (h : PtM w wr sb bp n part) (k : Nat) : wr.frozen? ⟨bp, k, none⟩ = false := free_of_block h.hp k
theorem PtM.f7 (h : PtM w wr sb bp n part) : wr.cell? ⟨sb, 7, none⟩ = some (slV bp n) := by
  obtain ⟨c, hc, hs⟩ := h.hs
  exact cell_of_block hs 7 _ hc
theorem PtM.same (h : PtM w wr sb bp n part) {part' : Nat → Int} (e : ∀ x, x < n → part x = part' x) : PtM w wr sb bp n part' :=
  ⟨h.below, h.hs, by rw [← tab_same e]; exact h.hp, h.d⟩
end
/-- the names behind i places -/
def nmF (part : Nat → Int) (i : Nat) : Int → Option Int := fun p => ((List.range i).find? (fun k => decide (p = part k))).map (fun k => ((cnV (eqB part) k : Nat) : Int))
/-- the row behind i places -/
def mixP (part : Nat → Int) (i : Nat) : Nat → Int := fun k => if k < i then ((cnV (eqB part) k : Nat) : Int) else part k
theorem nm_had (part : Nat → Int) (i : Nat) : (nmF part i (part i)).isSome = ((List.range i).find? (fun k => eqB part i k)).isSome := by
  simp [nmF, eqB]
theorem nm_yes {part : Nat → Int} {i : Nat} (h : (nmF part i (part i)).isSome = true) : nmF part i (part i) = some ((cnV (eqB part) i : Nat) : Int) ∧ nmF part (i + 1) = nmF part i ∧ (cnS (eqB part) (i + 1)).2 = (cnS (eqB part) i).2 := by
  rw [nm_had] at h
  obtain ⟨k, hk⟩ := Option.isSome_iff_exists.1 h
  have e1 : nmF part i (part i) = some ((cnV (eqB part) i : Nat) : Int) := by
    rw [cnV_some hk]
    show Option.map _ ((List.range i).find? (fun k => eqB part i k)) = _
    rw [hk]; rfl
  refine ⟨e1, ?_, cnS_next_some hk⟩
  funext p
  unfold nmF
  rw [List.range_succ, List.find?_append]
  by_cases e : p = part i
  · have : (List.range i).find? (fun k => decide (p = part k)) = some k := by rw [e]; exact hk
    rw [this]; rfl
  · rcases (List.range i).find? (fun k => decide (p = part k)) with _ | j
    · simp [e]
    · rfl
theorem nm_no {part : Nat → Int} {i : Nat} (h : (nmF part i (part i)).isSome = false) : (fun x => if x = part i then some (((cnS (eqB part) i).2 : Nat) : Int) else nmF part i x) = nmF part (i + 1) ∧ (cnS (eqB part) (i + 1)).2 = (cnS (eqB part) i).2 + 1 ∧
    nmF part (i + 1) (part i) = some ((cnV (eqB part) i : Nat) : Int) ∧ (((cnS (eqB part) i).2 : Nat) : Int) = ((cnV (eqB part) i : Nat) : Int) := by
  rw [nm_had] at h
  have hk : (List.range i).find? (fun k => eqB part i k) = none := by simpa using h
  have e0 : nmF part (i + 1) (part i) = some ((cnV (eqB part) i : Nat) : Int) := by
    unfold nmF
    rw [List.range_succ, List.find?_append]
    have : (List.range i).find? (fun k => decide (part i = part k)) = none := hk
    rw [this]
    simp
  refine ⟨?_, cnS_next_none hk, e0, by rw [cnV_none hk]⟩
  funext p
  by_cases e : p = part i
  · rw [if_pos e, e, e0, cnV_none hk]
  · rw [if_neg e]
    unfold nmF
    rw [List.range_succ, List.find?_append]
    rcases (List.range i).find? (fun k => decide (p = part k)) with _ | j
    · simp [e]
    · rfl
theorem mixP_step (part : Nat → Int) (i : Nat) : upd (mixP part i) i ((cnV (eqB part) i : Nat) : Int) = mixP part (i + 1) := by
  funext k
  by_cases e : k = i
  · rw [e, upd_same]; simp [mixP]
  · rw [upd_other _ _ _ _ e]
    unfold mixP
    by_cases h : k < i
    · rw [if_pos h, if_pos (by omega)]
    · rw [if_neg h, if_neg (by omega)]
theorem fill_step (k : Nat) (x : Nat) : upd (fun x => if x < k then (-1 : Int) else 0) k (-1) x = if x < k + 1 then -1 else 0 := by
  by_cases e : x = k
  · rw [e, upd_same, if_pos (by omega)]
  · rw [upd_other _ _ _ _ e]
    by_cases h : x < k
    · rw [if_pos h, if_pos (by omega)]
    · rw [if_neg h, if_neg (by omega)]
/-- the search's first state -/
def ts0 : TS := ⟨fun _ => -1, fun _ => 0, fun _ => false, [], fun _ => 0, 0, [], 0⟩
theorem run_init (G : TG) : RunInv G (fun _ => -1) ts0 := by
  refine ⟨⟨fun x => .inl rfl, fun x y h => ?_, fun x => by simp [ts0], List.Pairwise.nil, fun x h => ?_, fun c h => ?_, List.Pairwise.nil, fun c h => ?_, fun c h => ?_, fun x y h => ?_, fun x k h => ?_, fun x h => ?_, fun x h => ?_, fun x h => ?_, fun c h => ?_, fun x h => ?_, fun x h => ?_, fun x y h => ?_⟩, ?_, ?_, fun x h => ?_⟩
  all_goals first
    | (simp [ts0] at h; done)
    | (simp [ts0]; done)
    | skip
  have : ∀ n, unseen n ts0.num = n := fun n => by
    induction n with
    | zero => rfl
    | succ n ih => rw [unseen_succ, ih]; simp [ts0]
  rw [this]; simp [ts0]
end Go.Proofs.Ytnlaonppgebpoaa
