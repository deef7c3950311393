/-
  scc's search: its memory.
-/
import Derived.Test.YtnlaonppgebpoaaTarjan
import Derived.Test.YtnlaonppgebpoaaRBuild
import Derived.Test.YtnlaonppgebpoaaReach
namespace Go.Proofs.Ytnlaonppgebpoaa
open Go.RowKit

/-- the stack of nodes, as it lies: its bottom first -/
def ndC (l : List Nat) : List Value := l.reverse.map (fun x => Value.int .i64 (x : Nat))
def clC (l : List (Nat × Nat)) : List Value := l.reverse.flatMap (fun c => [Value.int .i64 (c.1 : Nat), Value.int .i64 (c.2 : Nat)])
theorem ndC_len (l : List Nat) : (ndC l).length = l.length := by simp [ndC]
theorem ndC_cons (x : Nat) (l : List Nat) : ndC (x :: l) = ndC l ++ [.int .i64 (x : Nat)] := by simp [ndC]
theorem clC_cons (c : Nat × Nat) (l : List (Nat × Nat)) : clC (c :: l) = clC l ++ [.int .i64 (c.1 : Nat), .int .i64 (c.2 : Nat)] := by simp [clC]
theorem clC_len : ∀ l : List (Nat × Nat), (clC l).length = l.length * 2
  | [] => rfl
  | c :: l => by rw [clC_cons, List.length_append, clC_len l]; simp; omega

abbrev slV (b n : Nat) : Value := .slice (some ⟨b, 0, none⟩) n n
/-- the search's struct in block sb, its rows in bn, bl, bo, bp; the stacks' rows lie from base on -/
structure SrM (w wr : World) (gS gA gT : Value) (sb bn bl bo bp base n : Nat) (num low : Nat → Int) (on : Nat → Bool) (nodes : List Nat) (part : Nat → Int) (parts : Nat) (calls : List (Nat × Nat)) (nv cv : Value) : Prop where
  below : Below w.heap.size w wr
  hs : wr.heap[sb]? = some (.cells #[gS, gA, gT, slV bn n, slV bl n, slV bo n, nv, slV bp n, .int .i64 (parts : Nat), cv] 82 (0, 0))
  hn : wr.heap[bn]? = some (.cells (ints (tab n num)) 3 (0, 0))
  hl : wr.heap[bl]? = some (.cells (ints (tab n low)) 3 (0, 0))
  ho : wr.heap[bo]? = some (.cells (bools (tab n on)) 4 (0, 0))
  hp : wr.heap[bp]? = some (.cells (ints (tab n part)) 3 (0, 0))
  rn : wr.ownsRow base 3 1 nv nodes.length (ndC nodes)
  rc : wr.ownsRow base 125 2 cv calls.length (clC calls)
  d : (w.heap.size ≤ sb ∧ w.heap.size ≤ bn ∧ w.heap.size ≤ bl ∧ w.heap.size ≤ bo ∧ w.heap.size ≤ bp) ∧ (sb < base ∧ bn < base ∧ bl < base ∧ bo < base ∧ bp < base) ∧ sb ≠ bn ∧ sb ≠ bl ∧ sb ≠ bo ∧ sb ≠ bp ∧ bn ≠ bl ∧ bn ≠ bo ∧ bn ≠ bp ∧ bl ≠ bo ∧ bl ≠ bp ∧ bo ≠ bp
  hb : base ≤ wr.heap.size

section
variable {w wr : World} {gS gA gT : Value} {sb bn bl bo bp base n : Nat} {num low : Nat → Int} {on : Nat → Bool} {nodes : List Nat} {part : Nat → Int} {parts : Nat} {calls : List (Nat × Nat)} {nv cv : Value}

theorem SrM.drew (h : SrM w wr gS gA gT sb bn bl bo bp base n num low on nodes part parts calls nv cv) : SrM w wr.drew gS gA gT sb bn bl bo bp base n num low on nodes part parts calls nv cv :=
  ⟨h.below.drew, h.hs, h.hn, h.hl, h.ho, h.hp, h.rn, h.rc, h.d, h.hb⟩
theorem SrM.more (h : SrM w wr gS gA gT sb bn bl bo bp base n num low on nodes part parts calls nv cv) {w' : World} (hb : Below wr.heap.size wr w') : SrM w w' gS gA gT sb bn bl bo bp base n num low on nodes part parts calls nv cv :=
  ⟨h.below.trans (hb.mono h.below.size), bheap hb h.hs, bheap hb h.hn, bheap hb h.hl, bheap hb h.ho, bheap hb h.hp, ownsRow_frm (F := fun _ => False) h.rn (bfrm hb _) (fun _ _ => id), ownsRow_frm (F := fun _ => False) h.rc (bfrm hb _) (fun _ _ => id), h.d, Nat.le_trans h.hb hb.size⟩
/-- the struct's cells -/
theorem SrM.cell (h : SrM w wr gS gA gT sb bn bl bo bp base n num low on nodes part parts calls nv cv) (i : Nat) (v : Value) (hi : #[gS, gA, gT, slV bn n, slV bl n, slV bo n, nv, slV bp n, .int .i64 (parts : Nat), cv][i]? = some v) : wr.cell? ⟨sb, i, none⟩ = some v := cell_of_block h.hs i v hi
theorem SrM.free (h : SrM w wr gS gA gT sb bn bl bo bp base n num low on nodes part parts calls nv cv) (i : Nat) : wr.frozen? ⟨sb, i, none⟩ = false := free_of_block h.hs i
theorem tab_upd {α : Type} (m : Nat) (f : Nat → α) (k : Nat) (v : α) : (tab m f).set k v = tab m (upd f k v) := tab_set m f (upd f k v) k v (fun _ => upd_same _ _ _) (fun _ _ hx => upd_other _ _ _ _ hx)
theorem SrM.setNum (h : SrM w wr gS gA gT sb bn bl bo bp base n num low on nodes part parts calls nv cv) (k : Nat) (v : Int) : SrM w (wr.setCell ⟨bn, k, none⟩ (.int .i64 v)) gS gA gT sb bn bl bo bp base n (upd num k v) low on nodes part parts calls nv cv := by
  have hf : Frm (fun q => q = bn) wr (wr.setCell ⟨bn, k, none⟩ (.int .i64 v)) := (Frm.refl (fun q => q = bn) wr).setCell (p := ⟨bn, k, none⟩) (fun _ => rfl) _
  obtain ⟨d1, d2, d3⟩ := h.d
  refine ⟨h.below.setCell (p := ⟨bn, k, none⟩) d1.2.1 _, hf.heap h.hs (by omega), ?_, hf.heap h.hl (by omega), hf.heap h.ho (by omega), hf.heap h.hp (by omega), ownsRow_frm h.rn hf (fun q hq e => by have := (h.rn.lt q hq).1; omega), ownsRow_frm h.rc hf (fun q hq e => by have := (h.rc.lt q hq).1; omega), h.d, by simpa using h.hb⟩
  rw [heap_setCell_block h.hn, ints_set, tab_upd]
theorem SrM.setLow (h : SrM w wr gS gA gT sb bn bl bo bp base n num low on nodes part parts calls nv cv) (k : Nat) (v : Int) : SrM w (wr.setCell ⟨bl, k, none⟩ (.int .i64 v)) gS gA gT sb bn bl bo bp base n num (upd low k v) on nodes part parts calls nv cv := by
  have hf : Frm (fun q => q = bl) wr (wr.setCell ⟨bl, k, none⟩ (.int .i64 v)) := (Frm.refl (fun q => q = bl) wr).setCell (p := ⟨bl, k, none⟩) (fun _ => rfl) _
  obtain ⟨d1, d2, d3⟩ := h.d
  refine ⟨h.below.setCell (p := ⟨bl, k, none⟩) d1.2.2.1 _, hf.heap h.hs (by omega), hf.heap h.hn (by omega), ?_, hf.heap h.ho (by omega), hf.heap h.hp (by omega), ownsRow_frm h.rn hf (fun q hq e => by have := (h.rn.lt q hq).1; omega), ownsRow_frm h.rc hf (fun q hq e => by have := (h.rc.lt q hq).1; omega), h.d, by simpa using h.hb⟩
  rw [heap_setCell_block h.hl, ints_set, tab_upd]
theorem SrM.setPart (h : SrM w wr gS gA gT sb bn bl bo bp base n num low on nodes part parts calls nv cv) (k : Nat) (v : Int) : SrM w (wr.setCell ⟨bp, k, none⟩ (.int .i64 v)) gS gA gT sb bn bl bo bp base n num low on nodes (upd part k v) parts calls nv cv := by
  have hf : Frm (fun q => q = bp) wr (wr.setCell ⟨bp, k, none⟩ (.int .i64 v)) := (Frm.refl (fun q => q = bp) wr).setCell (p := ⟨bp, k, none⟩) (fun _ => rfl) _
  obtain ⟨d1, d2, d3⟩ := h.d
  refine ⟨h.below.setCell (p := ⟨bp, k, none⟩) d1.2.2.2.2 _, hf.heap h.hs (by omega), hf.heap h.hn (by omega), hf.heap h.hl (by omega), hf.heap h.ho (by omega), ?_, ownsRow_frm h.rn hf (fun q hq e => by have := (h.rn.lt q hq).1; omega), ownsRow_frm h.rc hf (fun q hq e => by have := (h.rc.lt q hq).1; omega), h.d, by simpa using h.hb⟩
  rw [heap_setCell_block h.hp, ints_set, tab_upd]
theorem SrM.setOn (h : SrM w wr gS gA gT sb bn bl bo bp base n num low on nodes part parts calls nv cv) (k : Nat) (v : Bool) : SrM w (wr.setCell ⟨bo, k, none⟩ (.bool v)) gS gA gT sb bn bl bo bp base n num low (upd on k v) nodes part parts calls nv cv := by
  have hf : Frm (fun q => q = bo) wr (wr.setCell ⟨bo, k, none⟩ (.bool v)) := (Frm.refl (fun q => q = bo) wr).setCell (p := ⟨bo, k, none⟩) (fun _ => rfl) _
  obtain ⟨d1, d2, d3⟩ := h.d
  refine ⟨h.below.setCell (p := ⟨bo, k, none⟩) d1.2.2.2.1 _, hf.heap h.hs (by omega), hf.heap h.hn (by omega), hf.heap h.hl (by omega), ?_, hf.heap h.hp (by omega), ownsRow_frm h.rn hf (fun q hq e => by have := (h.rn.lt q hq).1; omega), ownsRow_frm h.rc hf (fun q hq e => by have := (h.rc.lt q hq).1; omega), h.d, by simpa using h.hb⟩
  rw [heap_setCell_block h.ho, bools_set, tab_upd]
theorem SrM.setParts (h : SrM w wr gS gA gT sb bn bl bo bp base n num low on nodes part parts calls nv cv) (m : Nat) : SrM w (wr.setCell ⟨sb, 8, none⟩ (.int .i64 (m : Nat))) gS gA gT sb bn bl bo bp base n num low on nodes part m calls nv cv := by
  have hf : Frm (fun q => q = sb) wr (wr.setCell ⟨sb, 8, none⟩ (.int .i64 (m : Nat))) := (Frm.refl (fun q => q = sb) wr).setCell (p := ⟨sb, 8, none⟩) (fun _ => rfl) _
  obtain ⟨d1, d2, d3⟩ := h.d
  refine ⟨h.below.setCell (p := ⟨sb, 8, none⟩) d1.1 _, ?_, hf.heap h.hn (by omega), hf.heap h.hl (by omega), hf.heap h.ho (by omega), hf.heap h.hp (by omega), ownsRow_frm h.rn hf (fun q hq e => by have := (h.rn.lt q hq).1; omega), ownsRow_frm h.rc hf (fun q hq e => by have := (h.rc.lt q hq).1; omega), h.d, by simpa using h.hb⟩
  rw [heap_setCell_block h.hs]; rfl
/-- a node pushed: behind the append and the store -/
theorem SrM.pushNode (h : SrM w wr gS gA gT sb bn bl bo bp base n num low on nodes part parts calls nv cv) (x m : Nat) (hm : nodes.length = m) {w2 w4 : World} {g cap : Nat} (h2 : Below wr.heap.size wr w2)
    (hg : w2.grownBy w4 nv.ownBlock) (hor : nv.ownBlock = some g ∨ g = w2.heap.size) (hown : w4.ownsRow base 3 1 (.slice (some ⟨g, 0, none⟩) (m + 1) cap) (m + 1) (ndC nodes ++ [.int .i64 (x : Nat)])) :
    w4.cell? ⟨sb, 6, none⟩ = some nv ∧ w4.frozen? ⟨sb, 6, none⟩ = false ∧ SrM w (w4.setCell ⟨sb, 6, none⟩ (.slice (some ⟨g, 0, none⟩) (m + 1) cap)) gS gA gT sb bn bl bo bp base n num low on (x :: nodes) part parts calls (.slice (some ⟨g, 0, none⟩) (m + 1) cap) cv := by
  subst hm
  have hM := h.more h2
  obtain ⟨d1, d2, d3⟩ := h.d
  have hbl : ∀ k, nv.ownBlock = some k → base ≤ k := fun k hk => (h.rn.lt k hk).1
  have hold : ∀ (k : Nat) (o : Obj), k < base → w2.heap[k]? = some o → w4.heap[k]? = some o := fun k o hk hh => by
    rw [hg.block k (Array.getElem?_eq_some_iff.1 hh).1 (fun e => by have := hbl k e.symm; omega)]; exact hh
  have hs4 := hold _ _ d2.1 hM.hs
  have hgb := (hown.lt g rfl).1
  have hf : Frm (fun q => q = sb) w4 (w4.setCell ⟨sb, 6, none⟩ (.slice (some ⟨g, 0, none⟩) (nodes.length + 1) cap)) := (Frm.refl (fun q => q = sb) w4).setCell (p := ⟨sb, 6, none⟩) (fun _ => rfl) _
  have hrc : w4.ownsRow base 125 2 cv calls.length (clC calls) := by
    refine ⟨hM.rc.1, ?_⟩
    rcases hM.rc.2 with hz | ⟨g', cap', cur, e, hb', hg', r⟩
    · exact .inl hz
    · refine .inr ⟨g', cap', cur, e, hb', ?_, r⟩
      rw [hg.block g' (Array.getElem?_eq_some_iff.1 hg').1 ?_]
      · exact hg'
      · intro e2
        rcases hM.rn.2 with ⟨rfl, -⟩ | ⟨g3, cap3, cur3, rfl, -, hg3, -⟩
        · simp [Value.ownBlock] at e2
        · simp [Value.ownBlock] at e2
          subst e2
          rw [hg3] at hg'
          simp at hg'
  refine ⟨cell_of_block hs4 6 _ rfl, free_of_block hs4 6, (hM.below.grown hg (Nat.le_trans (by omega) hM.hb) (fun k hk => by have := hbl k hk; omega)).setCell (p := ⟨sb, 6, none⟩) d1.1 _, ?_, hf.heap (hold _ _ d2.2.1 hM.hn) (by omega), hf.heap (hold _ _ d2.2.2.1 hM.hl) (by omega), hf.heap (hold _ _ d2.2.2.2.1 hM.ho) (by omega), hf.heap (hold _ _ d2.2.2.2.2 hM.hp) (by omega), ?_, ownsRow_frm hrc hf (fun q hq e => by have := (hrc.lt q hq).1; omega), h.d, by have := hg.size; have := hM.hb; simp; omega⟩
  · rw [heap_setCell_block hs4]; rfl
  · have := ownsRow_frm hown hf (fun k hk e => by simp [Value.ownBlock] at hk; omega)
    rw [ndC_cons]; exact this
/-- a call pushed -/
theorem SrM.pushCall (h : SrM w wr gS gA gT sb bn bl bo bp base n num low on nodes part parts calls nv cv) (x y m : Nat) (hm : calls.length = m) {w2 w4 : World} {g cap : Nat} (h2 : Below wr.heap.size wr w2)
    (hg : w2.grownBy w4 cv.ownBlock) (hor : cv.ownBlock = some g ∨ g = w2.heap.size) (hown : w4.ownsRow base 125 2 (.slice (some ⟨g, 0, none⟩) (m + 1) cap) (m + 1) (clC calls ++ [.int .i64 (x : Nat), .int .i64 (y : Nat)])) :
    w4.cell? ⟨sb, 9, none⟩ = some cv ∧ w4.frozen? ⟨sb, 9, none⟩ = false ∧ SrM w (w4.setCell ⟨sb, 9, none⟩ (.slice (some ⟨g, 0, none⟩) (m + 1) cap)) gS gA gT sb bn bl bo bp base n num low on nodes part parts ((x, y) :: calls) nv (.slice (some ⟨g, 0, none⟩) (m + 1) cap) := by
  subst hm
  have hM := h.more h2
  obtain ⟨d1, d2, d3⟩ := h.d
  have hbl : ∀ k, cv.ownBlock = some k → base ≤ k := fun k hk => (h.rc.lt k hk).1
  have hold : ∀ (k : Nat) (o : Obj), k < base → w2.heap[k]? = some o → w4.heap[k]? = some o := fun k o hk hh => by
    rw [hg.block k (Array.getElem?_eq_some_iff.1 hh).1 (fun e => by have := hbl k e.symm; omega)]; exact hh
  have hs4 := hold _ _ d2.1 hM.hs
  have hgb := (hown.lt g rfl).1
  have hf : Frm (fun q => q = sb) w4 (w4.setCell ⟨sb, 9, none⟩ (.slice (some ⟨g, 0, none⟩) (calls.length + 1) cap)) := (Frm.refl (fun q => q = sb) w4).setCell (p := ⟨sb, 9, none⟩) (fun _ => rfl) _
  have hrn : w4.ownsRow base 3 1 nv nodes.length (ndC nodes) := by
    refine ⟨hM.rn.1, ?_⟩
    rcases hM.rn.2 with hz | ⟨g', cap', cur, e, hb', hg', r⟩
    · exact .inl hz
    · refine .inr ⟨g', cap', cur, e, hb', ?_, r⟩
      rw [hg.block g' (Array.getElem?_eq_some_iff.1 hg').1 ?_]
      · exact hg'
      · intro e2
        rcases hM.rc.2 with ⟨rfl, -⟩ | ⟨g3, cap3, cur3, rfl, -, hg3, -⟩
        · simp [Value.ownBlock] at e2
        · simp [Value.ownBlock] at e2
          subst e2
          rw [hg3] at hg'
          simp at hg'
  refine ⟨cell_of_block hs4 9 _ rfl, free_of_block hs4 9, (hM.below.grown hg (Nat.le_trans (by omega) hM.hb) (fun k hk => by have := hbl k hk; omega)).setCell (p := ⟨sb, 9, none⟩) d1.1 _, ?_, hf.heap (hold _ _ d2.2.1 hM.hn) (by omega), hf.heap (hold _ _ d2.2.2.1 hM.hl) (by omega), hf.heap (hold _ _ d2.2.2.2.1 hM.ho) (by omega), hf.heap (hold _ _ d2.2.2.2.2 hM.hp) (by omega), ownsRow_frm hrn hf (fun q hq e => by have := (hrn.lt q hq).1; omega), ?_, h.d, by have := hg.size; have := hM.hb; simp; omega⟩
  · rw [heap_setCell_block hs4]; rfl
  · have := ownsRow_frm hown hf (fun k hk e => by simp [Value.ownBlock] at hk; omega)
    rw [clC_cons]; exact this
end
end Go.Proofs.Ytnlaonppgebpoaa
