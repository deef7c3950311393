/-
  lasso's walker: its memory, and a step along an edge. lasso's act: the walker goes along an agent's edge. (Written by gen_walkact.py.) lasso's walker looks for a node: acts, first, and its two closures. Plain: what a shortest way by some nodes is: a way; found where there is one; no longer than there are nodes. The walker's steps.
-/
import Derived.Test.YtnlaonppgebpoaaRInWalk
import Derived.Test.YtnlaonppgebpoaaLassoA
import Derived.Deep.RegionLaw
import Derived.StillTailTactics
namespace Go.Proofs.Ytnlaonppgebpoaa
open Go.RowKit

/-- the walker in block wb, its row of truths in block ib, its two rows of numbers own, apart -/
structure WkM (w0 wr : World) (gS gA gT : Value) (wb ib : Nat) (inl : List Bool) (at_ : Int) (went stops : List Int) (wv sv : Value) : Prop where
  below : Below w0.heap.size w0 wr
  hs : wr.heap[wb]? = some (.cells #[gS, gA, gT, slV ib inl.length, .int .i64 at_, wv, sv] 115 (0, 0))
  hi : wr.heap[ib]? = some (.cells (bools inl) 4 (0, 0))
  rw : wr.ownsRow w0.heap.size 3 1 wv went.length (went.map (Value.int .i64))
  rs : wr.ownsRow w0.heap.size 3 1 sv stops.length (stops.map (Value.int .i64))
  off : ∀ q, wv.ownBlock = some q → sv.ownBlock ≠ some q
  d : w0.heap.size ≤ wb ∧ w0.heap.size ≤ ib
section
variable {w0 wr : World} {gS gA gT : Value} {wb ib : Nat} {inl : List Bool} {at_ : Int} {went stops : List Int} {wv sv : Value}
theorem WkM.more (h : WkM w0 wr gS gA gT wb ib inl at_ went stops wv sv) {w' : World} (hb : Below wr.heap.size wr w') : WkM w0 w' gS gA gT wb ib inl at_ went stops wv sv :=
  ⟨h.below.trans (hb.mono h.below.size), bheap hb h.hs, bheap hb h.hi, own_more h.rw hb, own_more h.rs hb, h.off, h.d⟩
theorem WkM.drew (h : WkM w0 wr gS gA gT wb ib inl at_ went stops wv sv) : WkM w0 wr.drew gS gA gT wb ib inl at_ went stops wv sv := h.more (Below.refl _ _).drew
theorem WkM.cell (h : WkM w0 wr gS gA gT wb ib inl at_ went stops wv sv) (i : Nat) (v : Value) (hi : #[gS, gA, gT, slV ib inl.length, .int .i64 at_, wv, sv][i]? = some v) : wr.cell? ⟨wb, i, none⟩ = some v := cell_of_block h.hs i v hi
theorem WkM.free (h : WkM w0 wr gS gA gT wb ib inl at_ went stops wv sv) (i : Nat) : wr.frozen? ⟨wb, i, none⟩ = false := free_of_block h.hs i
theorem WkM.mask (h : WkM w0 wr gS gA gT wb ib inl at_ went stops wv sv) : BoolsAt wr (slV ib inl.length) inl :=
  ⟨some ⟨ib, 0, none⟩, inl.length, rfl, fun j hj => ⟨ib, 0, rfl, by rw [Nat.zero_add]; exact cell_of_block h.hi j _ (bools_get _ j hj)⟩⟩
theorem WkM.ne (h : WkM w0 wr gS gA gT wb ib inl at_ went stops wv sv) : wb ≠ ib ∧ (∀ q, wv.ownBlock = some q → q ≠ wb ∧ q ≠ ib) ∧ (∀ q, sv.ownBlock = some q → q ≠ wb ∧ q ≠ ib) := by
  have h1 := h.hs
  have h2 := h.hi
  refine ⟨fun e => ?_, fun q hq => ⟨fun e => ?_, fun e => ?_⟩, fun q hq => ⟨fun e => ?_, fun e => ?_⟩⟩
  · rw [e, h2] at h1; simp at h1
  · obtain ⟨c, e2⟩ := own_cells h.rw hq; rw [e, h1] at e2; simp at e2
  · obtain ⟨c, e2⟩ := own_cells h.rw hq; rw [e, h2] at e2; simp at e2
  · obtain ⟨c, e2⟩ := own_cells h.rs hq; rw [e, h1] at e2; simp at e2
  · obtain ⟨c, e2⟩ := own_cells h.rs hq; rw [e, h2] at e2; simp at e2
/-- a cell of the struct set -/
theorem WkM.frm (_h : WkM w0 wr gS gA gT wb ib inl at_ went stops wv sv) (i : Nat) (v : Value) : Frm (fun q => q = wb) wr (wr.setCell ⟨wb, i, none⟩ v) := (Frm.refl (fun q => q = wb) wr).setCell (p := ⟨wb, i, none⟩) (fun _ => rfl) _
theorem WkM.setAt (h : WkM w0 wr gS gA gT wb ib inl at_ went stops wv sv) (x : Int) : WkM w0 (wr.setCell ⟨wb, 4, none⟩ (.int .i64 x)) gS gA gT wb ib inl x went stops wv sv := by
  have hf := h.frm 4 (.int .i64 x)
  obtain ⟨n1, n2, n3⟩ := h.ne
  refine ⟨h.below.setCell (p := ⟨wb, 4, none⟩) h.d.1 _, ?_, hf.heap h.hi (Ne.symm n1), ownsRow_frm h.rw hf (fun q hq => (n2 q hq).1), ownsRow_frm h.rs hf (fun q hq => (n3 q hq).1), h.off, h.d⟩
  rw [heap_setCell_block h.hs]; rfl
/-- the row of agents grown, behind the store -/
theorem WkM.pushWent (h : WkM w0 wr gS gA gT wb ib inl at_ went stops wv sv) (x : Int) (m : Nat) (hm : went.length = m) {w2 w4 : World} {g cap : Nat} (h2 : Below wr.heap.size wr w2)
    (hg : w2.grownBy w4 wv.ownBlock) (hor : wv.ownBlock = some g ∨ g = w2.heap.size) (hown : w4.ownsRow w0.heap.size 3 1 (.slice (some ⟨g, 0, none⟩) (m + 1) cap) (m + 1) (went.map (Value.int .i64) ++ [.int .i64 x])) :
    w4.cell? ⟨wb, 5, none⟩ = some wv ∧ w4.frozen? ⟨wb, 5, none⟩ = false ∧ WkM w0 (w4.setCell ⟨wb, 5, none⟩ (.slice (some ⟨g, 0, none⟩) (m + 1) cap)) gS gA gT wb ib inl at_ (went ++ [x]) stops (.slice (some ⟨g, 0, none⟩) (m + 1) cap) sv := by
  subst hm
  have hM := h.more h2
  obtain ⟨n1, n2, n3⟩ := hM.ne
  have hf4 : Frm (fun k => wv.ownBlock = some k) w2 w4 := (Frm.refl _ w2).grown hg (fun k hk _ => hk)
  have hs4 := hf4.heap hM.hs (fun e => (n2 _ e).1 rfl)
  have hi4 := hf4.heap hM.hi (fun e => (n2 _ e).2 rfl)
  have rs4 := ownsRow_frm hM.rs hf4 (fun q hq e => hM.off q e hq)
  have b4 : Below w0.heap.size w0 w4 := hM.below.trans (hf4.below (fun k hk => (hM.rw.lt k hk).1) hM.below.size)
  have hgw : g ≠ wb := by
    rcases hor with e | e
    · exact (n2 g e).1
    · have := (Array.getElem?_eq_some_iff.1 hM.hs).1; omega
  have hgs : sv.ownBlock ≠ some g := by
    rcases hor with e | e
    · exact hM.off g e
    · intro e2; have := (hM.rs.lt g e2).2; omega
  have hf : Frm (fun q => q = wb) w4 (w4.setCell ⟨wb, 5, none⟩ (.slice (some ⟨g, 0, none⟩) (went.length + 1) cap)) := (Frm.refl (fun q => q = wb) w4).setCell (p := ⟨wb, 5, none⟩) (fun _ => rfl) _
  refine ⟨cell_of_block hs4 5 _ rfl, free_of_block hs4 5, b4.setCell (p := ⟨wb, 5, none⟩) h.d.1 _, ?_, hf.heap hi4 (Ne.symm n1), ?_, ownsRow_frm rs4 hf (fun q hq => (n3 q hq).1), ?_, h.d⟩
  · rw [heap_setCell_block hs4]; rfl
  · have := ownsRow_frm hown hf (fun k hk e => by simp [Value.ownBlock] at hk; omega)
    rw [List.map_append, List.length_append]; exact this
  · intro q hq
    obtain rfl : g = q := by simpa [Value.ownBlock] using hq
    exact hgs
/-- the row of nodes grown, behind the store -/
theorem WkM.pushStops (h : WkM w0 wr gS gA gT wb ib inl at_ went stops wv sv) (x : Int) (m : Nat) (hm : stops.length = m) {w2 w4 : World} {g cap : Nat} (h2 : Below wr.heap.size wr w2)
    (hg : w2.grownBy w4 sv.ownBlock) (hor : sv.ownBlock = some g ∨ g = w2.heap.size) (hown : w4.ownsRow w0.heap.size 3 1 (.slice (some ⟨g, 0, none⟩) (m + 1) cap) (m + 1) (stops.map (Value.int .i64) ++ [.int .i64 x])) :
    w4.cell? ⟨wb, 6, none⟩ = some sv ∧ w4.frozen? ⟨wb, 6, none⟩ = false ∧ WkM w0 (w4.setCell ⟨wb, 6, none⟩ (.slice (some ⟨g, 0, none⟩) (m + 1) cap)) gS gA gT wb ib inl at_ went (stops ++ [x]) wv (.slice (some ⟨g, 0, none⟩) (m + 1) cap) := by
  subst hm
  have hM := h.more h2
  obtain ⟨n1, n2, n3⟩ := hM.ne
  have hf4 : Frm (fun k => sv.ownBlock = some k) w2 w4 := (Frm.refl _ w2).grown hg (fun k hk _ => hk)
  have hs4 := hf4.heap hM.hs (fun e => (n3 _ e).1 rfl)
  have hi4 := hf4.heap hM.hi (fun e => (n3 _ e).2 rfl)
  have rw4 := ownsRow_frm hM.rw hf4 (fun q hq e => hM.off q hq e)
  have b4 : Below w0.heap.size w0 w4 := hM.below.trans (hf4.below (fun k hk => (hM.rs.lt k hk).1) hM.below.size)
  have hgw : g ≠ wb := by
    rcases hor with e | e
    · exact (n3 g e).1
    · have := (Array.getElem?_eq_some_iff.1 hM.hs).1; omega
  have hgs : wv.ownBlock ≠ some g := by
    rcases hor with e | e
    · exact fun e2 => hM.off g e2 e
    · intro e2; have := (hM.rw.lt g e2).2; omega
  have hf : Frm (fun q => q = wb) w4 (w4.setCell ⟨wb, 6, none⟩ (.slice (some ⟨g, 0, none⟩) (stops.length + 1) cap)) := (Frm.refl (fun q => q = wb) w4).setCell (p := ⟨wb, 6, none⟩) (fun _ => rfl) _
  refine ⟨cell_of_block hs4 6 _ rfl, free_of_block hs4 6, b4.setCell (p := ⟨wb, 6, none⟩) h.d.1 _, ?_, hf.heap hi4 (Ne.symm n1), ownsRow_frm rw4 hf (fun q hq => (n2 q hq).1), ?_, ?_, h.d⟩
  · rw [heap_setCell_block hs4]; rfl
  · have := ownsRow_frm hown hf (fun k hk e => by simp [Value.ownBlock] at hk; omega)
    rw [List.map_append, List.length_append]; exact this
  · intro q hq e
    obtain rfl : g = q := by simpa [Value.ownBlock] using e
    exact hgs hq
end
/-- what a step of the walker turns: its struct, its rows; new rows are new -/
structure WkF (wb : Nat) (wv sv : Value) (w : World) (wv' sv' : Value) (w' : World) : Prop where
  frm : Frm (fun q => q = wb ∨ wv.ownBlock = some q ∨ sv.ownBlock = some q) w w'
  wn : ∀ q, wv'.ownBlock = some q → wv.ownBlock = some q ∨ w.heap.size ≤ q
  sn : ∀ q, sv'.ownBlock = some q → sv.ownBlock = some q ∨ w.heap.size ≤ q
theorem WkF.of_below {wb : Nat} {wv sv : Value} {w w' : World} (h : Below w.heap.size w w') : WkF wb wv sv w wv sv w' := ⟨bfrm h _, fun _ h => .inl h, fun _ h => .inl h⟩
theorem WkF.trans {wb : Nat} {wv sv wv1 sv1 wv2 sv2 : Value} {w w1 w2 : World} (h : WkF wb wv sv w wv1 sv1 w1) (k : WkF wb wv1 sv1 w1 wv2 sv2 w2) : WkF wb wv sv w wv2 sv2 w2 := by
  refine ⟨h.frm.trans' k.frm (fun i hi hG => ?_), fun q hq => ?_, fun q hq => ?_⟩
  · rcases hG with e | e | e
    · exact .inl e
    · rcases h.wn i e with e | e
      · exact .inr (.inl e)
      · omega
    · rcases h.sn i e with e | e
      · exact .inr (.inr e)
      · omega
  · rcases k.wn q hq with e | e
    · exact h.wn q e
    · exact .inr (Nat.le_trans h.frm.size e)
  · rcases k.sn q hq with e | e
    · exact h.sn q e
    · exact .inr (Nat.le_trans h.frm.size e)
theorem WkF.set {wb : Nat} {wv sv : Value} (w : World) (i : Nat) (v : Value) : WkF wb wv sv w wv sv (w.setCell ⟨wb, i, none⟩ v) :=
  ⟨(Frm.refl _ w).setCell (p := ⟨wb, i, none⟩) (fun _ => .inl rfl) _, fun _ h => .inl h, fun _ h => .inl h⟩
theorem WkF.push1 {wb : Nat} {wv sv : Value} {w w2 w4 : World} {g n cap i : Nat} {v : Value} (h2 : Below w.heap.size w w2) (hg : w2.grownBy w4 wv.ownBlock) (hor : wv.ownBlock = some g ∨ g = w2.heap.size) : WkF wb wv sv w (.slice (some ⟨g, 0, none⟩) n cap) sv (w4.setCell ⟨wb, i, none⟩ v) := by
  refine ⟨((bfrm h2 _).grown hg (fun k hk _ => .inr (.inl hk))).setCell (p := ⟨wb, i, none⟩) (fun _ => .inl rfl) _, fun q hq => ?_, fun _ h => .inl h⟩
  obtain rfl : g = q := by simpa [Value.ownBlock] using hq
  rcases hor with e | e
  · exact .inl e
  · have := h2.size; exact .inr (by omega)
theorem WkF.push2 {wb : Nat} {wv sv : Value} {w w2 w4 : World} {g n cap i : Nat} {v : Value} (h2 : Below w.heap.size w w2) (hg : w2.grownBy w4 sv.ownBlock) (hor : sv.ownBlock = some g ∨ g = w2.heap.size) : WkF wb wv sv w wv (.slice (some ⟨g, 0, none⟩) n cap) (w4.setCell ⟨wb, i, none⟩ v) := by
  refine ⟨((bfrm h2 _).grown hg (fun k hk _ => .inr (.inr hk))).setCell (p := ⟨wb, i, none⟩) (fun _ => .inl rfl) _, fun _ h => .inl h, fun q hq => ?_⟩
  obtain rfl : g = q := by simpa [Value.ownBlock] using hq
  rcases hor with e | e
  · exact .inl e
  · have := h2.size; exact .inr (by omega)
/-- a row of its own, apart from the walker's, stays -/
def Apart (v wv sv : Value) : Prop := ∀ q, v.ownBlock = some q → wv.ownBlock ≠ some q ∧ sv.ownBlock ≠ some q
theorem WkF.row {wb : Nat} {wv sv wv' sv' v : Value} {w w' w0 : World} {B n : Nat} {xs : List Value} {gS gA gT : Value} {ib : Nat} {inl : List Bool} {at_ : Int} {went stops : List Int} (h : WkF wb wv sv w wv' sv' w') (hM : WkM w0 w gS gA gT wb ib inl at_ went stops wv sv) (ho : w.ownsRow B 3 1 v n xs) (ha : Apart v wv sv) : w'.ownsRow B 3 1 v n xs ∧ Apart v wv' sv' := by
  refine ⟨ownsRow_frm ho h.frm (fun q hq hF => ?_), fun q hq => ⟨fun e => ?_, fun e => ?_⟩⟩
  · rcases hF with e | e | e
    · obtain ⟨c, e2⟩ := own_cells ho hq
      rw [e, hM.hs] at e2
      simp at e2
    · exact (ha q hq).1 e
    · exact (ha q hq).2 e
  · rcases h.wn q e with e | e
    · exact (ha q hq).1 e
    · have := (ho.lt q hq).2; omega
  · rcases h.sn q e with e | e
    · exact (ha q hq).2 e
    · have := (ho.lt q hq).2; omega
end Go.Proofs.Ytnlaonppgebpoaa

namespace Go.Proofs.Ytnlaonppgebpoaa
open Go.RowKit

set_option maxRecDepth 100000 in
set_option maxHeartbeats 16000000 in
theorem act_ok {w0 wr : World} {g : Gr} {gS gA gT : Value} {wb ib : Nat} {inl : List Bool} {at_ : Int} {went stops : List Int} {wv sv : Value} (h : WkM w0 wr gS gA gT wb ib inl at_ went stops wv sv) (hG : GraphAt w0 (.agg #[gS, gA, gT]) g) (a : Int) (hwl : went.length ≤ 1000000000) (hsl : stops.length ≤ 1000000000) :
    Calls Try.prog 119 #[.pointer (some ⟨wb, 0, none⟩), .int .i64 a] wr fun e w' => e = .returned (.tuple #[]) ∧ ∃ wv' sv', WkM w0 w' gS gA gT wb ib inl (folL g at_ [a]) (went ++ [a]) (stops ++ [folL g at_ [a]]) wv' sv' ∧ WkF wb wv sv wr wv' sv' w' := by
  obtain ⟨i0, hi0, hz0, hz1, hz2⟩ := info_parts Try.info3
  obtain ⟨wa, wc, rfl⟩ := own_var h.rw
  obtain ⟨sa, sc, rfl⟩ := own_var h.rs
  obtain ⟨n, hn⟩ : ∃ n, went.length = n := ⟨_, rfl⟩
  have HN := Lib.hid hn
  obtain ⟨m, hm⟩ : ∃ m, stops.length = m := ⟨_, rfl⟩
  have HM := Lib.hid hm
  rw [hn] at h hwl ⊢
  rw [hm] at h hsl ⊢
  clear hn hm
  have H0 := Lib.hid h
  have HF := Lib.hid (fun (w' : World) (hb : Below wr.heap.size wr w') (pv : Value) (hp : IntsAt w' pv [a]) => fol_ok _ pv g at_ [a] w' (hG.below (h.below.trans (hb.mono h.below.size))) hp (by simp))
  have c0 := h.cell 0 _ rfl
  have c1 := h.cell 1 _ rfl
  have c2 := h.cell 2 _ rfl
  have c4 := h.cell 4 _ rfl
  clear h hG
  generalize folL g at_ [a] = NA at *
  go_enter Try.func119, Try.ntmps119
  go_wp2_with fail
  refine region_rel_tail 12 (fun _ => undef)
    (fun f => { tmps := #[.pointer (some ⟨wb, 0, none⟩), .int .i64 a, undef, undef, f 4, f 5, f 6, f 7, f 8, f 9, f 10, f 11, f 12, f 13, f 14, f 15, undef, undef, undef, undef, undef, undef, undef, undef, undef, undef, undef, undef, undef, undef, undef, undef, undef, undef, undef, undef, undef, undef, undef, undef, undef], defers := [] }) (fun j => j + 4)
    (relM [.of (.eq (.pointer (some ⟨wb, 0, none⟩))), .of (.eq (.pointer (some ⟨wb, 0, none⟩))), .of (.eq (.pointer (some ⟨wb, 0, none⟩))), .of (.eq (.pointer (some ⟨wb, 0, none⟩))), .of (.eq (.agg #[gS, gA, gT])), .of (.eq (.pointer (some ⟨wb, 0, none⟩))), .of (.eq (.pointer (some ⟨wb, 0, none⟩))), .of (.eq (.pointer (some ⟨wb, 4, none⟩))), .of (.eq (.int .i64 at_)), .of (.eq (.int .i64 a)), .one (.int .i64 a) 3, .of (.eq (.int .i64 NA))])
    rfl (by kernel_rfl) (by kernel_rfl) (by kernel_rfl) (by decide) (by kernel_rfl) (fun i u w w' hb h => relM_mono hb h) (by kernel_rfl) (by kernel_rfl) ?_ ?_ ?_
  · intro j hj f v
    rcases j with _ | _ | _ | _ | _ | _ | _ | _ | _ | _ | _ | _ | j
    all_goals first | rfl | omega | (simp at hj; omega)
  · refine ⟨?_, ?_, ?_, ?_, ?_, ?_, ?_, ?_, ?_, ?_, ?_, ?_, trivial⟩
    · intro f w' hb hd K hK
      dsimp only
      go_simp
      exact hK (.pointer (some ⟨wb, 0, none⟩)) w' (Below.refl _ _) rfl
    · intro f w' hb hd K hK
      dsimp only
      go_simp
      exact hK (.pointer (some ⟨wb, 0, none⟩)) w' (Below.refl _ _) rfl
    · intro f w' hb hd K hK
      have h0 : f 5 = (.pointer (some ⟨wb, 0, none⟩)) := hd 1 (by kernel_rfl)
      dsimp only
      go_simp
      have q := hK (.pointer (some ⟨wb, 0, none⟩)) w' (Below.refl _ _) rfl
      simp only [h0] at q
      exact q
    · intro f w' hb hd K hK
      have h0 : f 6 = (.pointer (some ⟨wb, 0, none⟩)) := hd 2 (by kernel_rfl)
      dsimp only
      go_simp
      have q := hK (.pointer (some ⟨wb, 0, none⟩)) w' (Below.refl _ _) rfl
      simp only [h0] at q
      exact q
    · intro f w' hb hd K hK
      have h0 : f 7 = (.pointer (some ⟨wb, 0, none⟩)) := hd 3 (by kernel_rfl)
      have e0 := bkeep hb c0
      have e1 := bkeep hb c1
      have e2 := bkeep hb c2
      dsimp only
      go_simp
      have q := hK (.agg #[gS, gA, gT]) w' (Below.refl _ _) rfl
      simp only [h0] at q
      exact q
    · intro f w' hb hd K hK
      dsimp only
      go_simp
      exact hK (.pointer (some ⟨wb, 0, none⟩)) w' (Below.refl _ _) rfl
    · intro f w' hb hd K hK
      have h0 : f 9 = (.pointer (some ⟨wb, 0, none⟩)) := hd 5 (by kernel_rfl)
      dsimp only
      go_simp
      have q := hK (.pointer (some ⟨wb, 0, none⟩)) w' (Below.refl _ _) rfl
      simp only [h0] at q
      exact q
    · intro f w' hb hd K hK
      have h0 : f 10 = (.pointer (some ⟨wb, 0, none⟩)) := hd 6 (by kernel_rfl)
      dsimp only
      go_simp
      have q := hK (.pointer (some ⟨wb, 4, none⟩)) w' (Below.refl _ _) rfl
      simp only [h0] at q
      exact q
    · intro f w' hb hd K hK
      have h0 : f 11 = (.pointer (some ⟨wb, 4, none⟩)) := hd 7 (by kernel_rfl)
      have e0 := bkeep hb c4
      dsimp only
      go_simp
      have q := hK (.int .i64 at_) w' (Below.refl _ _) rfl
      simp only [h0] at q
      exact q
    · intro f w' hb hd K hK
      dsimp only
      go_simp
      exact hK (.int .i64 a) w' (Below.refl _ _) rfl
    · intro f w' hb hd K hK
      have h0 : f 13 = (.int .i64 a) := hd 9 (by kernel_rfl)
      dsimp only
      go_simp
      have q := hK _ _ (balloc w' (.cells #[(.int .i64 a)] 3)) ⟨w'.heap.size, rfl, heap_alloc_new w' _⟩
      simp only [h0] at q
      exact q
    · intro f w' hb hd K hK
      have h0 : f 8 = (.agg #[gS, gA, gT]) := hd 4 (by kernel_rfl)
      have h1 : f 12 = (.int .i64 at_) := hd 8 (by kernel_rfl)
      obtain ⟨b, h2, hbk⟩ : ∃ b, f 14 = .slice (some ⟨b, 0, none⟩) 1 1 ∧ w'.heap[b]? = some (.cells #[(.int .i64 a)] 3 (0, 0)) := hd 10 (by kernel_rfl)
      have HI : Hid (IntsAt w' (.slice (some ⟨b, 0, none⟩) 1 1) [a]) := Lib.hid ⟨some ⟨b, 0, none⟩, 1, rfl, fun j hj => ⟨b, 0, rfl, by obtain rfl : j = 0 := (by simpa using hj); exact cell_of_block hbk 0 _ rfl⟩⟩
      have HO := Lib.hid (HF.out w' ((Below.refl _ wr).drew.trans hb) _ HI.out)
      clear hbk
      dsimp only
      go_simp
      go_wp2_with (go_at_call 124; refine HO.out.mono ?_; rintro e w2 ⟨rfl, hb2⟩)
      have q := hK (.int .i64 NA) w2 hb2 rfl
      simp only [h0, h1, h2] at q
      exact q
  intro f w6 hb6 hr6
  have h0 : f 4 = (.pointer (some ⟨wb, 0, none⟩)) := hr6 0 (by decide)
  have h1 : f 5 = (.pointer (some ⟨wb, 0, none⟩)) := hr6 1 (by decide)
  have h2 : f 6 = (.pointer (some ⟨wb, 0, none⟩)) := hr6 2 (by decide)
  have h3 : f 7 = (.pointer (some ⟨wb, 0, none⟩)) := hr6 3 (by decide)
  have h4 : f 8 = (.agg #[gS, gA, gT]) := hr6 4 (by decide)
  have h5 : f 9 = (.pointer (some ⟨wb, 0, none⟩)) := hr6 5 (by decide)
  have h6 : f 10 = (.pointer (some ⟨wb, 0, none⟩)) := hr6 6 (by decide)
  have h7 : f 11 = (.pointer (some ⟨wb, 4, none⟩)) := hr6 7 (by decide)
  have h8 : f 12 = (.int .i64 at_) := hr6 8 (by decide)
  have h9 : f 13 = (.int .i64 a) := hr6 9 (by decide)
  obtain ⟨b6, h10, -⟩ : ∃ b, f 14 = .slice (some ⟨b, 0, none⟩) 1 1 ∧ w6.heap[b]? = some (.cells #[(.int .i64 a)] 3 (0, 0)) := hr6 10 (by decide)
  have h11 : f 15 = (.int .i64 NA) := hr6 11 (by decide)
  simp only [h0, h1, h2, h3, h4, h5, h6, h7, h8, h9, h10, h11, List.drop_succ_cons, List.drop_zero]
  have H6 := Lib.hid (H0.out.more hb6)
  have F6 := Lib.hid (WkF.of_below (wb := wb) (wv := .slice wa n wc) (sv := .slice sa m sc) hb6)
  clear hb6 hr6 c0 c1 c2 c4 h0 h1 h2 h3 h4 h5 h6 h7 h8 h9 h10 h11
  have c4 : w6.cell? ⟨wb, 4, none⟩ = some (.int .i64 at_) := H6.out.cell 4 _ rfl
  have r4 := H6.out.free 4
  have H7 := Lib.hid (H6.out.setAt NA)
  have F7 := Lib.hid (F6.out.trans (WkF.set w6 4 (.int .i64 NA)))
  have OW := Lib.hid H7.out.rw
  rw [HN.out] at OW
  have c5 : (w6.setCell ⟨wb, 4, none⟩ (.int .i64 NA)).cell? ⟨wb, 5, none⟩ = some (.slice wa n wc) := H7.out.cell 5 _ rfl
  have hsz : w0.heap.size ≤ (w6.setCell ⟨wb, 4, none⟩ (.int .i64 NA)).heap.size := H7.out.below.size
  have HSZ := Lib.hid hsz
  have H7L : Hid (went.length = n) := HN
  have e7 : (w6.setCell ⟨wb, 4, none⟩ (.int .i64 NA)).heap.size = w6.heap.size := by simp
  have NW : Hid (((w6.setCell ⟨wb, 4, none⟩ (.int .i64 NA)).alloc (.cells #[.int .i64 a] 3)).heap[w6.heap.size]? = some (.cells #[.int .i64 a] 3)) := Lib.hid (by have := heap_alloc_new (w6.setCell ⟨wb, 4, none⟩ (.int .i64 NA)) (.cells #[.int .i64 a] 3); rwa [e7] at this)
  clear hsz H6 H0 HF e7 F6
  go_wp2_with (at_builtin; refine wpList_append_lies ((w6.setCell ⟨wb, 4, none⟩ (.int .i64 NA)).alloc (.cells #[.int .i64 a] 3)) rfl (.tmp 22) (.tmp 24) 24 rfl w0.heap.size 3 i0 (.int .i64 0) 1 8 Try.underlying24 hi0 hz0 hz1 hz2 rfl (by decide) (.slice wa n wc) n _ rfl (OW.out.alloc _) ⟨w6.heap.size, 0, none⟩ 1 1 [.int .i64 a] rfl rfl (World.news_of_block NW.out) (by simp [Value.oneCell']) (by omega) (by unfold maxLen; omega) (by omega) (by have := HSZ.out; simp at this ⊢; omega) (w6.heap.size + 1) (by simp) ?_; intro g3 cap3 w8 hown3 hgr3 hor3 hlt3; obtain ⟨q0, q1, q2⟩ := H7.out.pushWent a n H7L.out (balloc _ _) hgr3 (by simpa using hor3) hown3; have H9 := Lib.hid q2; have F9 : Hid (WkF wb (.slice wa n wc) (.slice sa m sc) wr (.slice (some ⟨g3, 0, none⟩) (n + 1) cap3) (.slice sa m sc) (w8.setCell ⟨wb, 5, none⟩ (.slice (some ⟨g3, 0, none⟩) (n + 1) cap3))) := Lib.hid (F7.out.trans (WkF.push1 (balloc _ _) hgr3 (by simpa using hor3))); clear hown3 hgr3 hor3 hlt3 q2)
  generalize World.setCell w8 _ _ = w9 at *
  have HSV := Lib.hid H9.out.rs
  rw [HM.out] at HSV
  have c6 : w9.cell? ⟨wb, 6, none⟩ = some (.slice sa m sc) := H9.out.cell 6 _ rfl
  have c4' : w9.cell? ⟨wb, 4, none⟩ = some (.int .i64 NA) := H9.out.cell 4 _ rfl
  have hb9 : w0.heap.size ≤ w9.heap.size := H9.out.below.size
  have HB9 := Lib.hid hb9
  have e6 := bkeep (balloc w9 (.cells #[.int .i64 NA] 3)) c6
  have e4 := bkeep (balloc w9 (.cells #[.int .i64 NA] 3)) c4'
  have M1 : Hid (m + 1 ≤ maxLen) := Lib.hid (by unfold maxLen; omega)
  have M2 : Hid ((m + 1) * 8 ≤ 140737488355328) := Lib.hid (by omega)
  have M3 : Hid (w0.heap.size ≤ w9.heap.size + 1) := Lib.hid (by omega)
  clear q0 q1 hb9 c4 r4 c5 H7 OW HSZ NW
  go_region_law (refine step_append_lies ((w9.alloc (.cells #[.int .i64 NA] 3)).drew) rfl (.tmp 32) (.tmp 37) 24 rfl w0.heap.size 3 i0 (.int .i64 0) 1 8 Try.underlying24 hi0 hz0 hz1 hz2 rfl (by decide) (.slice sa m sc) m (stops.map (Value.int .i64)) (by simp [Act.eval]) (HSV.out.alloc _) ⟨w9.heap.size, 0, none⟩ 1 1 [.int .i64 NA] (by simp [Act.eval]) rfl (World.news_of_block (heap_alloc_new w9 _)) (by simp [Value.oneCell']) Nat.one_pos M1.out M2.out (by simpa using M3.out) (w9.heap.size + 1) (by simp) ?_; intro g4 cap4 w10 hown4 hgr4 hor4 hlt4; obtain ⟨q0, q1, q2⟩ := H9.out.pushStops NA m HM.out (balloc w9 (.cells #[.int .i64 NA] 3)).drew hgr4 (by simpa using hor4) hown4; have Q6 := Lib.hid q2; have F10 : Hid (WkF wb (.slice wa n wc) (.slice sa m sc) wr _ _ (w10.setCell ⟨wb, 6, none⟩ (.slice (some ⟨g4, 0, none⟩) (m + 1) cap4))) := Lib.hid (F9.out.trans (WkF.push2 (cap := cap4) (n := m + 1) (g := g4) (balloc w9 (.cells #[.int .i64 NA] 3)).drew hgr4 (by simpa using hor4))); clear q2 hgr4 hown4 hor4)
  all_goals go_wp2_with fail
  all_goals go_end0
  all_goals exact ⟨rfl, _, _, Q6.out, F10.out⟩
end Go.Proofs.Ytnlaonppgebpoaa

namespace Go.Proofs.Ytnlaonppgebpoaa
open Go.RowKit

/-- an edge of an agent to a node of the part -/
def toP (inl : List Bool) (a : Int) (e : Ed) : Bool := decide (e.2.1 = a) && inl.getD e.2.2.toNat false
def actsP (g : Gr) (inl : List Bool) (a : Int) (i : Nat) : Bool := (outL g (i : Int)).any (toP inl a)
theorem any_hit {p : Ed → Bool} {l : List Ed} {k : Nat} (hk : k < l.length) (hp : p (l.getD k (0, 0, 0)) = true) : l.any p = true := List.any_eq_true.2 ⟨_, edn_mem hk, hp⟩
theorem any_no {p : Ed → Bool} {l : List Ed} (h : ∀ j, j < l.length → p (l.getD j (0, 0, 0)) = false) : l.any p = false := by
  rw [List.any_eq_false]
  intro x hx
  obtain ⟨j, hj, rfl⟩ := List.getElem_of_mem hx
  have := h j hj
  rw [List.getD_eq_getElem?_getD, List.getElem?_eq_getElem hj] at this
  simpa using this

set_option maxRecDepth 100000 in
set_option maxHeartbeats 16000000 in
theorem wacts_ok {w0 wr : World} {g : Gr} {gS gA gT : Value} {wb ib : Nat} {inl : List Bool} {at_ : Int} {went stops : List Int} {wv sv : Value} (h : WkM w0 wr gS gA gT wb ib inl at_ went stops wv sv) (hG : GraphAt w0 (.agg #[gS, gA, gT]) g) (i : Nat) (a : Int)
    (hE : ∀ e ∈ outL g (i : Int), 0 ≤ e.2.2 ∧ e.2.2 < (inl.length : Int)) :
    Calls Try.prog 117 #[.pointer (some ⟨wb, 0, none⟩), .int .i64 (i : Nat), .int .i64 a] wr fun e w' => e = .returned (.bool (actsP g inl a i)) ∧ Below wr.heap.size wr w' := by
  have c0 := h.cell 0 _ rfl
  have c1 := h.cell 1 _ rfl
  have c2 := h.cell 2 _ rfl
  have c3 : wr.cell? ⟨wb, 3, none⟩ = some (.slice (some ⟨ib, 0, none⟩) inl.length inl.length) := h.cell 3 _ rfl
  have HO := Lib.hid (out_ok _ g i wr (hG.below h.below))
  have hol : (outL g (i : Int)).length ≤ 1000000 := Nat.le_trans (outL_len g _) hG.sT
  have HMC := Lib.hid (fun j (hj : j < inl.length) => cell_of_block h.hi j _ (bools_get _ j hj))
  have AH := Lib.hid (fun k hk hp => any_hit (p := toP inl a) (l := outL g (i : Int)) (k := k) hk hp)
  have AN := Lib.hid (fun hh => any_no (p := toP inl a) (l := outL g (i : Int)) hh)
  have EI := Lib.hid (fun k (hk : k < (outL g (i : Int)).length) => hE _ (edn_mem hk))
  have HIT : Hid (∀ e : Ed, toP inl a e = (decide (e.2.1 = a) && inl.getD e.2.2.toNat false)) := Lib.hid (fun e => rfl)
  clear h hG hE
  unfold actsP
  generalize List.any (outL g (i : Int)) (toP inl a) = RES at *
  generalize toP inl a = HI at *
  generalize outL g (i : Int) = el at *
  go_enter Try.func117, Try.ntmps117
  go_wp2_with (go_at_call 26; refine HO.out.mono ?_; rintro e w1 ⟨rv, rfl, hE, hb1⟩; obtain ⟨ea, ec, rfl, hE⟩ := hE; have HED := Lib.hid hE; have HB1 := Lib.hid hb1; have c4 := bkeep hb1 c3; clear hE hb1)
  clear c0 c1 c2 c3
  have C4 := Lib.hid c4
  clear c4
  go_loopg [16] el.length (fun fu c wr => ∃ k : Nat, k + fu = el.length ∧ c = .int .i64 k ∧ Hid (∀ j, j < k → HI (el.getD j (0, 0, 0)) = false) ∧ Hid (Below w1.heap.size w1 wr))
  case atStart => exact ⟨0, by omega, rfl, Lib.hid (fun j hj => by omega), Lib.hid (Below.refl _ _)⟩
  case round =>
    obtain ⟨k, hk, rfl, HK, HBR⟩ := hrel
    by_cases hlt : k < el.length
    · obtain ⟨b1, o1, rfl, d1, d2, d3⟩ := HED.out k hlt
      have y1 := bkeep HBR.out d1
      have y2 := bkeep HBR.out d2
      have y3 := bkeep HBR.out d3
      have z1 : (k : Int) < (el.length : Int) := by omega
      have hin := EI.out k hlt
      have HH := Lib.hid (fun hp => AH.out k hlt hp)
      have HN2 : Hid (HI (el.getD k (0, 0, 0)) = false → ∀ j, j < k + 1 → HI (el.getD j (0, 0, 0)) = false) := Lib.hid (fun hne j hj => by
        by_cases e : j = k
        · rw [e]; exact hne
        · exact HK.out j (by omega))
      have HT := Lib.hid (HIT.out (el.getD k (0, 0, 0)))
      clear d1 d2 d3
      generalize el.getD k (0, 0, 0) = ed at *
      obtain ⟨ex, ey, ez⟩ := ed
      simp only at hin y1 y2 y3 HH HT
      obtain ⟨r, rfl⟩ : ∃ q : Nat, ez = (q : Int) := ⟨ez.toNat, by omega⟩
      simp only [Int.toNat_natCast] at HT
      have z3 : (r : Int) < (inl.length : Int) := by omega
      have HB4 := Lib.hid (HBR.out.trans ((balloc _ (.cells #[.int .i64 ex, .int .i64 ey, .int .i64 (r : Nat)] 44)).mono HBR.out.size))
      have q1 := bkeep HB4.out C4.out
      have q2 := bkeep HB4.out (bkeep HB1.out (HMC.out r (by omega)))
      clear hin
      by_cases hy : ey = a
      · subst hy
        have hyy : (ey == ey) = true := by simp
        rw [decide_eq_true rfl, Bool.true_and] at HT
        cases h2 : inl.getD r false
        · rw [h2] at HT q2
          have E := Lib.hid (HN2.out HT.out)
          clear h2
          go_wp2_with fail
          go_quiet (fail)
          go_wp2_with fail
          go_roundg (el.length - (k + 1))
          case measure => omega
          case rel => exact ⟨k + 1, by omega, by simp, E, Lib.hid (by first | exact HB4.out.drew | exact bdrewN HB4.out _)⟩
        · rw [h2] at HT q2
          have E := Lib.hid (HH.out HT.out)
          clear h2
          go_wp2_with fail
          go_quiet (fail)
          go_wp2_with fail
          go_ret
          exact ⟨by rw [E.out]; rfl, HB1.out.trans (Below.mono (by first | exact HB4.out.drew | exact bdrewN HB4.out _) HB1.out.size)⟩
      · have hyy : (ey == a) = false := beq_false_of_ne hy
        rw [decide_eq_false hy, Bool.false_and] at HT
        have E := Lib.hid (HN2.out HT.out)
        clear q1 q2
        go_wp2_with fail
        go_quiet (fail)
        go_wp2_with fail
        go_roundg (el.length - (k + 1))
        case measure => omega
        case rel => exact ⟨k + 1, by omega, by simp, E, Lib.hid (by first | exact HB4.out.drew | exact bdrewN HB4.out _)⟩
    · obtain rfl : k = el.length := by omega
      have E := Lib.hid (AN.out HK.out)
      go_wp2_with fail
      go_ret
      exact ⟨by rw [E.out]; rfl, HB1.out.trans (HBR.out.mono HB1.out.size)⟩

set_option maxRecDepth 100000 in
set_option maxHeartbeats 16000000 in
theorem first_ok {M : Nat} {caps : Array Value} {p : Nat → Bool} {w0 wr : World} {gS gA gT : Value} {wb ib : Nat} {inl : List Bool} {at_ : Int} {went stops : List Int} {wv sv : Value} (h : WkM w0 wr gS gA gT wb ib inl at_ went stops wv sv) (T : InFn M caps wr inl.length p) (hl : inl.length ≤ 100000) :
    Calls Try.prog 115 #[.pointer (some ⟨wb, 0, none⟩), .func (.func M) #[] caps] wr fun e w' => e = .returned (.int .i64 (firstN (fun i => inl.getD i false && p i) inl.length)) ∧ Below wr.heap.size wr w' := by
  have hE' : ∀ (args : Array Value) (w : World), (callFunc M args).run Try.prog w = .ok (.enter M args) w := T.enters
  have HT := Lib.hid T.ok
  have c3 : wr.cell? ⟨wb, 3, none⟩ = some (.slice (some ⟨ib, 0, none⟩) inl.length inl.length) := h.cell 3 _ rfl
  have HMC := Lib.hid (fun j (hj : j < inl.length) => cell_of_block h.hi j _ (bools_get _ j hj))
  obtain ⟨n, hn⟩ : ∃ n, inl.length = n := ⟨_, rfl⟩
  have FH := Lib.hid (fun k (hk : k < n) hj hp => firstN_hit (p := fun i => inl.getD i false && p i) (n := n) hk hj hp)
  have FN := Lib.hid (fun hj => firstN_none (p := fun i => inl.getD i false && p i) (n := n) hj)
  rw [hn] at c3 HMC HT hl ⊢
  clear T h hn
  generalize firstN (fun i => inl.getD i false && p i) n = RES at *
  have W0 := Lib.hid (Below.refl wr.heap.size wr)
  obtain ⟨WO, hWO⟩ : ∃ z : World, z = wr := ⟨_, rfl⟩
  rw [← hWO] at HT HMC W0 c3 ⊢
  clear hWO
  go_enter Try.func115, Try.ntmps115
  go_wp2_with fail
  go_loopg [12] n (fun fu c wr => ∃ k : Nat, k + fu = n ∧ c = .int .i64 k ∧ Hid (∀ j, j < k → (inl.getD j false && p j) = false) ∧ Hid (Below WO.heap.size WO wr))
  case atStart => exact ⟨0, by omega, rfl, Lib.hid (fun j hj => by omega), W0⟩
  case round =>
    obtain ⟨k, hk, rfl, HK, HBR⟩ := hrel
    by_cases hlt : k < n
    · have y1 := bkeep HBR.out (HMC.out k hlt)
      have z1 : (k : Int) < (n : Int) := by omega
      have HH := Lib.hid (fun hp => FH.out k hlt HK.out hp)
      have HN2 : Hid ((inl.getD k false && p k) = false → ∀ j, j < k + 1 → (inl.getD j false && p j) = false) := Lib.hid (fun hne j hj => by
        by_cases e : j = k
        · rw [e]; exact hne
        · exact HK.out j (by omega))
      have HC := Lib.hid (HT.out k _ hlt HBR.out)
      cases h1 : inl.getD k false
      · rw [h1] at HN2 y1
        have E := Lib.hid (HN2.out rfl)
        clear h1
        go_wp2_with fail
        go_roundg (n - (k + 1))
        case measure => omega
        case rel => exact ⟨k + 1, by omega, by simp, E, HBR⟩
      · rw [h1, Bool.true_and] at HN2 HH
        rw [h1] at y1
        cases h2 : p k
        · rw [h2] at HC HN2
          have E := Lib.hid (HN2.out rfl)
          clear h1 h2
          go_wp2_with (go_at_fn M; refine HC.out.mono ?_; rintro en w1 ⟨rfl, hb1⟩; have HB1 := Lib.hid (HBR.out.trans (hb1.mono HBR.out.size)); clear hb1)
          go_roundg (n - (k + 1))
          case measure => omega
          case rel => exact ⟨k + 1, by omega, by simp, E, HB1⟩
        · rw [h2] at HC HH
          have E := Lib.hid (HH.out rfl)
          clear h1 h2
          go_wp2_with (go_at_fn M; refine HC.out.mono ?_; rintro en w1 ⟨rfl, hb1⟩; have HB1 := Lib.hid (HBR.out.trans (hb1.mono HBR.out.size)); clear hb1)
          go_ret
          exact ⟨by rw [E.out]; rfl, HB1.out⟩
    · obtain rfl : k = n := by omega
      have E := Lib.hid (FN.out HK.out)
      go_wp2_with fail
      go_ret
      exact ⟨by rw [E.out]; rfl, HBR.out⟩

set_option maxRecDepth 100000 in
set_option maxHeartbeats 16000000 in
theorem inn_acts {w0 wr : World} {g : Gr} {gS gA gT : Value} {wb ib vb ab : Nat} {inl : List Bool} {at_ : Int} {went stops : List Int} {wv sv : Value} (h : WkM w0 wr gS gA gT wb ib inl at_ went stops wv sv) (hG : GraphAt w0 (.agg #[gS, gA, gT]) g) (a : Int)
    (hE : ∀ e ∈ allL g, 0 ≤ e.2.2 ∧ e.2.2 < (inl.length : Int)) (hv : wr.cell? ⟨vb, 0, none⟩ = some (.pointer (some ⟨wb, 0, none⟩))) (ha : wr.cell? ⟨ab, 0, none⟩ = some (.int .i64 a)) :
    InFn 116 #[.pointer (some ⟨vb, 0, none⟩), .pointer (some ⟨ab, 0, none⟩)] wr inl.length (actsP g inl a) := by
  refine ⟨enters_of Try.func116 (by kernel_rfl) rfl, ?_⟩
  intro i w hi hw
  show Calls Try.prog 116 #[.int .i64 (i : Nat), .pointer (some ⟨vb, 0, none⟩), .pointer (some ⟨ab, 0, none⟩)] w _
  have HC := Lib.hid (wacts_ok (h.more hw) hG i a (fun e he => hE e (outL_mem.1 he).1))
  have d1 := bkeep hw hv
  have d2 := bkeep hw ha
  clear h hG hv ha hE hw
  generalize actsP g inl a i = RES at *
  go_enter Try.func116, Try.ntmps116
  go_wp2_with (go_at_call 117; refine HC.out.mono ?_; rintro e w1 ⟨rfl, hb1⟩; have HB1 := Lib.hid hb1; clear hb1)
  go_ret
  exact ⟨rfl, HB1.out⟩

set_option maxRecDepth 100000 in
set_option maxHeartbeats 16000000 in
theorem inn_idle {wr : World} {eb ab : Nat} {u : Value} {en : List (List Bool)} {a A : Nat} (hu : BRowsAt wr u en) (hrows : ∀ i, i < en.length → (en.getD i []).length = A) (haA : a < A) (hv : wr.cell? ⟨eb, 0, none⟩ = some u) (ha : wr.cell? ⟨ab, 0, none⟩ = some (.int .i64 (a : Nat))) :
    InFn 120 #[.pointer (some ⟨eb, 0, none⟩), .pointer (some ⟨ab, 0, none⟩)] wr en.length (fun i => !(en.getD i []).getD a false) := by
  refine ⟨enters_of Try.func120 (by kernel_rfl) rfl, ?_⟩
  intro i w hi hw
  show Calls Try.prog 120 #[.int .i64 (i : Nat), .pointer (some ⟨eb, 0, none⟩), .pointer (some ⟨ab, 0, none⟩)] w _
  obtain ⟨ua, uc, rfl, hrow⟩ := hu
  obtain ⟨b4, o4, uu, rfl, c1, r1⟩ := hrow i hi
  obtain ⟨ra, rc, rfl, hrb⟩ := r1
  have hrl := hrows i hi
  rw [hrl] at c1 hrb
  obtain ⟨b5, o5, rfl, m5⟩ := hrb a haA
  have d1 := bkeep hw hv
  have d2 := bkeep hw ha
  have q2 := bkeep hw c1
  have q3 := bkeep hw m5
  have z2 : (a : Int) < (A : Int) := by omega
  have z1 : (i : Int) < (en.length : Int) := by omega
  have HB := Lib.hid (Below.refl w.heap.size w)
  clear hv ha hrow hrows c1 hrb m5 hw hrl hi
  generalize (en.getD i []).getD a false = b at *
  generalize en.length = n at *
  go_enter Try.func120, Try.ntmps120
  go_wp2_with fail
  (refine region_still (by kernel_rfl) (by kernel_rfl) ?_; (repeat still_step); refine wpStill_nil ?_)
  go_wp2_with fail
  go_ret
  exact ⟨rfl, by first | exact HB.out.drew | exact HB.out⟩
end Go.Proofs.Ytnlaonppgebpoaa

namespace Go.Proofs.Ytnlaonppgebpoaa

/-- a way by edges whose ends are in -/
inductive Way (g : Gr) (inl : List Bool) (x : Int) : List Int → Int → Prop
  | nil : Way g inl x [] x
  | snoc (p : List Int) (y a z : Int) : Way g inl x p y → (y, a, z) ∈ allL g → inB inl z = true → Way g inl x (p ++ [a]) z
theorem fs_in {F : FS} {j : Nat} (h : j < F.length) : F.getD j (0, []) ∈ F := by simp [List.getD_eq_getElem?_getD, h]
theorem BI.way {g : Gr} {inl : List Bool} {src : Int} {F : FS} (h : BI g inl src F) : ∀ n j, j ≤ n → j < F.length → Way g inl src (F.getD j (0, [])).2 (F.getD j (0, [])).1 := by
  intro n
  induction n with
  | zero =>
    intro j hj hl
    obtain rfl : j = 0 := by omega
    rw [h.hd]; exact .nil
  | succ n ih =>
    intro j hj hl
    by_cases e : j = 0
    · subst e; rw [h.hd]; exact .nil
    · obtain ⟨i, a, q1, q2, q3⟩ := h.par j (by omega) hl
      rw [q2]
      exact .snoc _ _ _ _ (ih i (by omega) (by omega)) q3 (h.inn _ (fs_in hl)).1
/-- of the nodes looked at, all edges have been gone -/
def Clo (g : Gr) (inl : List Bool) (tgt : Int) (F : FS) (i : Nat) : Prop := ∀ j, j < i → (F.getD j (0, [])).1 ≠ tgt ∧ ∀ e ∈ outL g (F.getD j (0, [])).1, inB inl e.2.2 = true → ∃ y ∈ F, y.1 = e.2.2
theorem vis_mem {inl : List Bool} {el : List Ed} {p : List Int} {F : FS} {y : Int × List Int} (h : y ∈ F) : y ∈ visK inl el p F el.length := by
  obtain ⟨j, hj, rfl⟩ := List.getElem_of_mem h
  obtain ⟨h1, h2⟩ := visK_old (inl := inl) (el := el) (p := p) (F := F) el.length (Nat.le_refl _)
  have := h2 j hj
  rw [show F[j] = F.getD j (0, []) by rw [List.getD_eq_getElem?_getD, List.getElem?_eq_getElem hj]; rfl, ← this]
  exact fs_in (Nat.lt_of_lt_of_le hj h1)
theorem Clo.step {g : Gr} {inl : List Bool} {tgt : Int} {F : FS} {i : Nat} (h : Clo g inl tgt F i) (hi : i < F.length) (hne : (F.getD i (0, [])).1 ≠ tgt) : Clo g inl tgt (visL g inl F i) (i + 1) := by
  intro j hj
  obtain ⟨h1, h2⟩ := visK_old (inl := inl) (el := outL g (F.getD i (0, [])).1) (p := (F.getD i (0, [])).2) (F := F) (outL g (F.getD i (0, [])).1).length (Nat.le_refl _)
  have ej : (visL g inl F i).getD j (0, []) = F.getD j (0, []) := h2 j (by omega)
  rw [ej]
  by_cases e : j = i
  · subst e
    refine ⟨hne, fun e he hin => ?_⟩
    obtain ⟨k, hk, rfl⟩ := List.getElem_of_mem he
    have := vis_has (inl := inl) (el := outL g (F.getD j (0, [])).1) (p := (F.getD j (0, [])).2) (F := F) _ (Nat.le_refl _) k hk
    rw [List.getD_eq_getElem?_getD, List.getElem?_eq_getElem hk] at this
    exact this hin
  · obtain ⟨q1, q2⟩ := h j (by omega)
    refine ⟨q1, fun e he hin => ?_⟩
    obtain ⟨y, hy, e1⟩ := q2 e he hin
    exact ⟨y, vis_mem hy, e1⟩
theorem bfs_spec {g : Gr} {inl : List Bool} {src tgt : Int} : ∀ (n : Nat) (F : FS) (i : Nat), BI g inl src F → Clo g inl tgt F i → i ≤ F.length → inl.length + 1 ≤ i + n →
    match bfs g inl tgt n F i with
    | some p => ∃ F' j, BI g inl src F' ∧ j < F'.length ∧ F'.getD j (0, []) = (tgt, p)
    | none => ∃ F', BI g inl src F' ∧ Clo g inl tgt F' F'.length
  | 0, F, i, hB, hC, hi, hf => by have := hB.len; omega
  | n + 1, F, i, hB, hC, hi, hf => by
    rw [bfs]
    by_cases hlt : i < F.length
    · rw [if_pos hlt]
      by_cases ht : (F.getD i (0, [])).1 = tgt
      · rw [if_pos ht]
        exact ⟨F, i, hB, hlt, by rw [← ht]⟩
      · rw [if_neg ht]
        obtain ⟨h1, -⟩ := visK_old (inl := inl) (el := outL g (F.getD i (0, [])).1) (p := (F.getD i (0, [])).2) (F := F) (outL g (F.getD i (0, [])).1).length (Nat.le_refl _)
        exact bfs_spec n _ (i + 1) (hB.vis hlt _ (Nat.le_refl _)) (hC.step hlt ht) (Nat.lt_of_lt_of_le hlt h1) (by omega)
    · rw [if_neg hlt]
      obtain rfl : i = F.length := by omega
      exact ⟨F, hB, hC⟩
/-- where there is a way, by nodes that are in, one is found -/
theorem clo_way {g : Gr} {inl : List Bool} {src tgt : Int} {F : FS} (hB : BI g inl src F) (hC : Clo g inl tgt F F.length) {p : List Int} {y : Int} (h : Way g inl src p y) : ∃ x ∈ F, x.1 = y := by
  induction h with
  | nil => exact ⟨_, fs_in hB.pos, by rw [hB.hd]⟩
  | snoc p y a z hw he hin ih =>
    obtain ⟨x, hx, e⟩ := ih
    obtain ⟨j, hj, rfl⟩ := List.getElem_of_mem hx
    have := (hC j hj).2 (y, a, z)
    rw [show F.getD j (0, []) = F[j] by rw [List.getD_eq_getElem?_getD, List.getElem?_eq_getElem hj]; rfl, e] at this
    exact this (outL_mem.2 ⟨he, rfl⟩) hin
/-- the way that is found -/
theorem insL_spec {g : Gr} {inl : List Bool} {src tgt : Int} {part : List Int} (hs : inB inl src = true) (h0 : 0 ≤ src) (hp : ∀ x, inB inl x = true → 0 ≤ x → x ∈ part) (hw : ∃ p, Way g inl src p tgt) :
    ∃ p, insL g inl src tgt = some p ∧ Way g inl src p tgt ∧ p.length + 1 ≤ part.length := by
  have h := bfs_spec (g := g) (inl := inl) (src := src) (tgt := tgt) (inl.length + 1) [(src, [])] 0 (BI.start hs h0) (fun j hj => by omega) (by simp) (by omega)
  unfold insL
  cases hb : bfs g inl tgt (inl.length + 1) [(src, [])] 0 with
  | some p =>
    rw [hb] at h
    obtain ⟨F', j, hB, hj, e⟩ := h
    refine ⟨p, rfl, ?_, ?_⟩
    · have := hB.way j j (Nat.le_refl _) hj
      rwa [e] at this
    · have h1 := hB.short j j (Nat.le_refl _) hj
      rw [e] at h1
      have h2 := nodup_len (a := F'.map (fun y => y.1)) (b := part) hB.nd (fun x hx => by
        obtain ⟨y, hy, rfl⟩ := List.mem_map.1 hx
        exact hp _ (hB.inn y hy).1 (hB.inn y hy).2)
      rw [List.length_map] at h2
      simp only at h1
      omega
  | none =>
    rw [hb] at h
    obtain ⟨F', hB, hC⟩ := h
    obtain ⟨p, hw⟩ := hw
    obtain ⟨x, hx, e⟩ := clo_way hB hC hw
    obtain ⟨j, hj, rfl⟩ := List.getElem_of_mem hx
    have := (hC j hj).1
    rw [show F'.getD j (0, []) = F'[j] by rw [List.getD_eq_getElem?_getD, List.getElem?_eq_getElem hj]; rfl] at this
    exact absurd e this
/-- whatever is asked, the way is no longer than the row of truths -/
theorem insL_len (g : Gr) (inl : List Bool) (src tgt : Int) (hs : inB inl src = true) (h0 : 0 ≤ src) : ((insL g inl src tgt).getD []).length ≤ inl.length := by
  have h := bfs_spec (g := g) (inl := inl) (src := src) (tgt := tgt) (inl.length + 1) [(src, [])] 0 (BI.start hs h0) (fun j hj => by omega) (by simp) (by omega)
  unfold insL
  cases hb : bfs g inl tgt (inl.length + 1) [(src, [])] 0 with
  | some p =>
    rw [hb] at h
    obtain ⟨F', j, hB, hj, e⟩ := h
    have h1 := hB.short j j (Nat.le_refl _) hj
    rw [e] at h1
    have := hB.len
    simp only [Option.getD_some] at h1 ⊢
    omega
  | none => simp

/-- the walker: where it is, by whom it went, where it was -/
abbrev WS : Type := Int × List Int × List Int
def actW (g : Gr) (s : WS) (a : Int) : WS := (folL g s.1 [a], s.2.1 ++ [a], s.2.2 ++ [folL g s.1 [a]])
def runW (g : Gr) (s : WS) (l : List Int) : WS := l.foldl (actW g) s
def reachW (g : Gr) (inl : List Bool) (s : WS) (t : Int) : WS := runW g s ((insL g inl s.1 t).getD [])
theorem runW_succ {g : Gr} {s : WS} {l : List Int} {k : Nat} (h : k < l.length) : runW g s (l.take (k + 1)) = actW g (runW g s (l.take k)) (l.getD k 0) := by
  unfold runW
  rw [List.take_add_one, List.getElem?_eq_getElem h, List.foldl_append]
  simp [List.getD_eq_getElem?_getD, h]
theorem runW_len (g : Gr) : ∀ (l : List Int) (s : WS), (runW g s l).2.1.length = s.2.1.length + l.length ∧ (runW g s l).2.2.length = s.2.2.length + l.length
  | [], s => ⟨rfl, rfl⟩
  | a :: l, s => by
    have := runW_len g l (actW g s a)
    unfold runW at this ⊢
    rw [List.foldl_cons]
    simp only [actW, List.length_append, List.length_cons, List.length_nil] at this ⊢
    omega
end Go.Proofs.Ytnlaonppgebpoaa
