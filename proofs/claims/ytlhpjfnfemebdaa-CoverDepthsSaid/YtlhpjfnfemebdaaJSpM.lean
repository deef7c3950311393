/-
  The memory of a space that grows: its rows side by side, its configurations apart from them. A space behind the stores of its graph, and of the result.
-/
import Derived.Test.YtlhpjfnfemebdaaActM
import Derived.Test.YtlhpjfnfemebdaaJMachT
import Derived.Test.YtlhpjfnfemebdaaJCovP
namespace Go.Proofs.Ytlhpjfnfemebdaa
open Go.RowKit
def spF (B S : Nat) (vC vP vA vE : Value) (q : Nat) : Prop := (q = S ∨ q < B) ∨ vC.ownBlock = some q ∨ vP.ownBlock = some q ∨ vA.ownBlock = some q ∨ vE.ownBlock = some q
def CfS (F : Nat → Prop) (w : World) (v : Value) (c : Cf) : Prop := ∀ w', Frm F w w' → CfV w' v c
theorem CfS.now {F : Nat → Prop} {w : World} {v : Value} {c : Cf} (h : CfS F w v c) : CfV w v c := h w (Frm.refl F w)
theorem CfS.step {F F' : Nat → Prop} {w w' : World} {v : Value} {c : Cf} (h : CfS F w v c) (k : Frm F w w') (hF : ∀ q, F' q → F q ∨ w.heap.size ≤ q) : CfS F' w' v c := fun w'' k' => by
 refine h w'' (k.trans2 k' fun i hi hf => ?_)
 rcases hF i hf with e | e
 ·exact e
 ·omega
def IntS (F : Nat → Prop) (w : World) (v : Value) (l : List Int) : Prop := ∀ w', Frm F w w' → IntsAt w' v l
theorem IntS.now {F : Nat → Prop} {w : World} {v : Value} {l : List Int} (h : IntS F w v l) : IntsAt w v l := h w (Frm.refl F w)
theorem IntS.step {F F' : Nat → Prop} {w w' : World} {v : Value} {l : List Int} (h : IntS F w v l) (k : Frm F w w') (hF : ∀ q, F' q → F q ∨ w.heap.size ≤ q) : IntS F' w' v l := fun w'' k' => by
 refine h w'' (k.trans2 k' fun i hi hf => ?_)
 rcases hF i hf with e | e
 ·exact e
 ·omega
theorem OwnI.stable {base : Nat} {w : World} {v : Value} {l : List Int} (h : OwnI base w v l) {F : Nat → Prop} (hF : ∀ q, F q → q < base) : IntS F w v l := fun _ k =>
 OwnI.ints (base := base) (ownsRow_frm h k fun q e hq => by
  have := (World.ownsRow.lt h q e).1
  have := hF q hq
  omega)
theorem OwnC.stable {base : Nat} {w : World} {vp vr vm vb : Value} {rv bv : List Value} {c : Cf} (h : OwnC base w vp vr vm vb rv bv c) {F : Nat → Prop} (hF : ∀ q, F q → q < base) : CfS F w (.agg #[vp, vr, vm, vb]) c := fun w' k => by
 have ap : ∀ {e : TypeId} {size n : Nat} {v : Value} {xs : List Value}, w.ownsRow base e size v n xs → w'.ownsRow base e size v n xs := fun ho => ownsRow_frm ho k fun q e hq => by
  have := (World.ownsRow.lt ho q e).1
  have := hF q hq
  omega
 exact (OwnC.cf (rv := rv) (bv := bv) ⟨ap h.pc, ⟨h.regs.len, ap h.regs.out, fun j hj => ap (h.regs.inn j hj)⟩, ap h.mem, ⟨h.buf.len, ap h.buf.out, fun j hj => ap (h.buf.inn j hj)⟩, h.apart⟩)
theorem OwnC.stable2 {base : Nat} {w0 w : World} {vp vr vm vb : Value} {rv bv : List Value} {c : Cf} (h : OwnC base w0 vp vr vm vb rv bv c) (hb : Below w0.heap.size w0 w) {F : Nat → Prop} (hF : ∀ q, F q → q < base ∨ w0.heap.size ≤ q) : CfS F w (.agg #[vp, vr, vm, vb]) c := fun w' k => by
 have ap : ∀ {e : TypeId} {size n : Nat} {v : Value} {xs : List Value}, w0.ownsRow base e size v n xs → w'.ownsRow base e size v n xs := fun ho => ownsRow_frm (ownm ho hb) k fun q e hq => by
  have := World.ownsRow.lt ho q e
  have := hF q hq
  omega
 exact (OwnC.cf (rv := rv) (bv := bv) ⟨ap h.pc, ⟨h.regs.len, ap h.regs.out, fun j hj => ap (h.regs.inn j hj)⟩, ap h.mem, ⟨h.buf.len, ap h.buf.out, fun j hj => ap (h.buf.inn j hj)⟩, h.apart⟩)
theorem own_setT {base : Nat} {w : World} {e : TypeId} {size n : Nat} {v : Value} {xs : List Value} {z : Nat × Nat} {a : Array Value} {t : TypeId} (h : w.ownsRow base e size v n xs) {b i : Nat} (hb : w.heap[b]? = some (.cells a t z)) (ht : t ≠ e) (x : Value) : (w.setCell ⟨b, i, none⟩ x).ownsRow base e size v n xs := by
 refine ownsRow_setCell_other h (a := ⟨b, i, none⟩) (fun e2 => ?_) x
 obtain ⟨-, h'⟩ := h
 rcases h' with ⟨rfl, -⟩ | ⟨g, cap, cur, rfl, -, hg, -⟩
 ·cases e2
 ·have e3 : g = b := by simpa [Value.ownBlock] using e2
  rw [e3, hb] at hg
  cases hg
  exact ht rfl
theorem OwnC.setT {base : Nat} {w : World} {vp vr vm vb : Value} {rv bv : List Value} {c : Cf} (h : OwnC base w vp vr vm vb rv bv c) {b i : Nat} {a : Array Value} {z : Nat × Nat} (hb : w.heap[b]? = some (.cells a 52 z)) (x : Value) : OwnC base (w.setCell ⟨b, i, none⟩ x) vp vr vm vb rv bv c :=
 ⟨own_setT h.pc hb (by decide) x, ⟨h.regs.len, own_setT h.regs.out hb (by decide) x, fun j hj => own_setT (h.regs.inn j hj) hb (by decide) x⟩, own_setT h.mem hb (by decide) x, ⟨h.buf.len, own_setT h.buf.out hb (by decide) x, fun j hj => own_setT (h.buf.inn j hj) hb (by decide) x⟩, h.apart⟩
abbrev V4 := Value × Value × Value × Value
def cells4 (l : List V4) : List Value := l.flatMap (fun x => [x.1, x.2.1, x.2.2.1, x.2.2.2])
def agg4 (x : V4) : Value := .agg #[x.1, x.2.1, x.2.2.1, x.2.2.2]
def v40 : V4 := (undef, undef, undef, undef)
theorem cells4_get {l : List V4} {j i : Nat} (hj : j < l.length) (hi : i < 4) : (cells4 l)[j * 4 + i]? = [(l.getD j v40).1, (l.getD j v40).2.1, (l.getD j v40).2.2.1, (l.getD j v40).2.2.2][i]? := by
 induction l generalizing j with
 | nil => simp at hj
 | cons x l ih =>
  unfold cells4
  rw [List.flatMap_cons]
  cases j with
  | zero =>
   rw [List.getElem?_append_left (by simp; omega)]
   simp
  | succ j =>
   rw [List.getElem?_append_right (by simp; omega)]
   have e : (j + 1) * 4 + i - [x.1, x.2.1, x.2.2.1, x.2.2.2].length = j * 4 + i := by simp; omega
   rw [e]
   have := ih (j := j) (by simpa using hj)
   unfold cells4 at this
   rw [this]
   simp
structure SpM (w wr : World) (uc : Array Value) (S : Nat) (vC vP vA vE : Value) (cvs : List V4) (s : Sp) : Prop where
 low : Below w.heap.size w wr
 bu : wr.heap[w.heap.size]? = some (.cells uc 25 (0, 0))
 br : wr.heap[w.heap.size + 1]? = some (.cells #[.slice none 0 0, .slice none 0 0, .slice none 0 0, .slice none 0 0, .slice none 0 0, .slice none 0 0] 32 (0, 0))
 bs : wr.heap[S]? = some (.cells #[vC, .slice none 0 0, .slice none 0 0, .slice none 0 0, vP, vA] 32 (0, 0))
 hS : w.heap.size + 2 ≤ S
 len : cvs.length = s.confs.length
 oC : wr.ownsRow (S + 1) 52 4 vC cvs.length (cells4 cvs)
 cf : ∀ j, j < s.confs.length → CfS (spF (w.heap.size + 2) S vC vP vA vE) wr (agg4 (cvs.getD j v40)) (s.confs.getD j cf0)
 oP : OwnI (S + 1) wr vP s.par
 oA : OwnI (S + 1) wr vA s.ag
 oE : wr.ownsRow (S + 1) 65 3 vE s.ed.length (edCells s.ed)
 apart : [vC, vP, vA, vE].Pairwise AP
section
variable {w wr w' : World} {uc : Array Value} {S : Nat} {vC vP vA vE : Value} {cvs : List V4} {s : Sp}
theorem SpM.more (h : SpM w wr uc S vC vP vA vE cvs s) (hb : Below wr.heap.size wr w') : SpM w w' uc S vC vP vA vE cvs s :=
 ⟨h.low.trans (hb.mono h.low.size), bheap hb h.bu, bheap hb h.br, bheap hb h.bs, h.hS, h.len, ownm h.oC hb, fun j hj => (h.cf j hj).step (bfrm hb _) (fun _ hq => .inl hq), h.oP.more hb, h.oA.more hb, ownm h.oE hb, h.apart⟩
theorem SpM.size (h : SpM w wr uc S vC vP vA vE cvs s) : S + 1 ≤ wr.heap.size := (Array.getElem?_eq_some_iff.1 h.bs).1
theorem SpM.confs (h : SpM w wr uc S vC vP vA vE cvs s) : ConfsAt wr vC s.confs := by
 obtain ⟨a, cap, rfl⟩ := ownv h.oC
 have hl := h.len
 refine ⟨a, cap, by rw [hl], fun j hj => ?_⟩
 obtain ⟨g, cap', e, -, -⟩ := World.ownsRow.form h.oC (by omega)
 cases e
 have hc : ∀ i, i < 4 → wr.cell? ⟨g, j * 4 + i, none⟩ = [(cvs.getD j v40).1, (cvs.getD j v40).2.1, (cvs.getD j v40).2.2.1, (cvs.getD j v40).2.2.2][i]? := fun i hi => by
  rw [World.ownsRow.cellAt h.oC (j * 4 + i) (by omega), cells4_get (by omega) hi]
 refine ⟨g, 0, (cvs.getD j v40).1, (cvs.getD j v40).2.1, (cvs.getD j v40).2.2.1, (cvs.getD j v40).2.2.2, rfl, ?_, ?_, ?_, ?_, (h.cf j hj).now⟩
 ·have := hc 0 (by omega); simpa using this
 ·have := hc 1 (by omega); simpa using this
 ·have := hc 2 (by omega); simpa using this
 ·have := hc 3 (by omega); simpa using this
theorem SpM.blk (h : SpM w wr uc S vC vP vA vE cvs s) {v : Value} (hv : v ∈ [vC, vP, vA, vE]) {q : Nat} (e : v.ownBlock = some q) : S + 1 ≤ q ∧ q < wr.heap.size := by
 simp only [List.mem_cons, List.not_mem_nil, or_false] at hv
 rcases hv with rfl | rfl | rfl | rfl
 ·exact World.ownsRow.lt h.oC q e
 ·exact World.ownsRow.lt h.oP q e
 ·exact World.ownsRow.lt h.oA q e
 ·exact World.ownsRow.lt h.oE q e
theorem SpM.spF_lt (h : SpM w wr uc S vC vP vA vE cvs s) : ∀ q, spF (w.heap.size + 2) S vC vP vA vE q → q < wr.heap.size := fun q hq => by
 have := h.size
 have := h.hS
 rcases hq with e | e | e | e | e
 ·omega
 ·exact (h.blk (v := vC) (by simp) e).2
 ·exact (h.blk (v := vP) (by simp) e).2
 ·exact (h.blk (v := vA) (by simp) e).2
 ·exact (h.blk (v := vE) (by simp) e).2
theorem SpM.base (h : SpM w wr uc S vC vP vA vE cvs s) {v : Value} (hv : v ∈ [vC, vP, vA, vE]) (hg : wr.grownBy w' v.ownBlock) :
  Below w.heap.size w w' ∧ w'.heap[w.heap.size]? = some (.cells uc 25 (0, 0)) ∧ w'.heap[w.heap.size + 1]? = some (.cells #[.slice none 0 0, .slice none 0 0, .slice none 0 0, .slice none 0 0, .slice none 0 0, .slice none 0 0] 32 (0, 0)) ∧ w'.heap[S]? = some (.cells #[vC, .slice none 0 0, .slice none 0 0, .slice none 0 0, vP, vA] 32 (0, 0)) := by
 have hS := h.hS
 have hsz := h.size
 have hne : ∀ k, k ≤ S → some k ≠ v.ownBlock := fun k hk e => by have := (h.blk hv e.symm).1; omega
 refine ⟨h.low.grown hg h.low.size (fun k hk => by have := (h.blk hv hk).1; omega), ?_, ?_, ?_⟩
 ·rw [hg.block _ (by omega) (hne _ (by omega))]; exact h.bu
 ·rw [hg.block _ (by omega) (hne _ (by omega))]; exact h.br
 ·rw [hg.block _ (by omega) (hne _ (Nat.le_refl _))]; exact h.bs
theorem SpM.lts (h : SpM w wr uc S vC vP vA vE cvs s) : ∀ x ∈ [vC, vP, vA, vE], ∀ q, x.ownBlock = some q → q < wr.heap.size := fun _ hx _ e => (h.blk hx e).2
theorem SpM.growC (h : SpM w wr uc S vC vP vA vE cvs s) {vC' : Value} {x : V4} {d : Cf} (hg : wr.grownBy w' vC.ownBlock) (hown : w'.ownsRow (S + 1) 52 4 vC' (cvs.length + 1) (cells4 cvs ++ [x.1, x.2.1, x.2.2.1, x.2.2.2])) (hor : ∀ q, vC'.ownBlock = some q → vC.ownBlock = some q ∨ wr.heap.size ≤ q) (hx : CfS (spF (w.heap.size + 2) S vC vP vA vE) wr (agg4 x) d) :
  SpM w (w'.setCell ⟨S, 0, none⟩ vC') uc S vC' vP vA vE (cvs ++ [x]) { s with confs := s.confs ++ [d] } := by
 obtain ⟨b1, b2, b3, b4⟩ := h.base (v := vC) (by simp) hg
 have hS := h.hS
 have hl := h.len
 obtain ⟨p1, -⟩ := List.pairwise_cons.1 h.apart
 have hF : Frm (spF (w.heap.size + 2) S vC vP vA vE) wr (w'.setCell ⟨S, 0, none⟩ vC') := frm_set (frm_grow hg (fun q e => .inr (.inl e))) (.inl (.inl rfl)) 0 vC'
 have hFF : ∀ q, spF (w.heap.size + 2) S vC' vP vA vE q → spF (w.heap.size + 2) S vC vP vA vE q ∨ wr.heap.size ≤ q := fun q hq => by
  rcases hq with e | e | e | e | e
  ·exact .inl (.inl e)
  ·rcases hor q e with e | e
   ·exact .inl (.inr (.inl e))
   ·exact .inr e
  ·exact .inl (.inr (.inr (.inl e)))
  ·exact .inl (.inr (.inr (.inr (.inl e))))
  ·exact .inl (.inr (.inr (.inr (.inr e))))
 refine ⟨b1.setCell (p := ⟨S, 0, none⟩) (by show w.heap.size ≤ S; omega) _, by rw [heap_set_ne (by omega)]; exact b2, by rw [heap_set_ne (by omega)]; exact b3, heap_setCell_block b4 0 vC', hS, by simp [hl], ?_, fun j hj => ?_, ?_, ?_, ?_, ?_⟩
 ·have : cells4 (cvs ++ [x]) = cells4 cvs ++ [x.1, x.2.1, x.2.2.1, x.2.2.2] := by unfold cells4; rw [List.flatMap_append]; simp
  rw [this, List.length_append, List.length_singleton]
  exact ownsRow_setCell_below hown (by show S < S + 1; omega) _
 ·show CfS _ _ (agg4 ((cvs ++ [x]).getD j v40)) ((s.confs ++ [d]).getD j cf0)
  simp only [List.length_append, List.length_singleton] at hj
  by_cases e : j < s.confs.length
  ·rw [getD_app_l (by omega), getD_app_l e]
   exact (h.cf j e).step hF hFF
  ·obtain rfl : j = s.confs.length := by omega
   rw [getD_app_e' hl, getD_app_e]
   exact hx.step hF hFF
 ·exact (keptG h.oP hg (p1 vP (by simp)).symm |> fun o => ownsRow_setCell_below o (by show S < S + 1; omega) _)
 ·exact (keptG h.oA hg (p1 vA (by simp)).symm |> fun o => ownsRow_setCell_below o (by show S < S + 1; omega) _)
 ·exact (keptG h.oE hg (p1 vE (by simp)).symm |> fun o => ownsRow_setCell_below o (by show S < S + 1; omega) _)
 ·exact ap_grow (V := []) (U := [vP, vA, vE]) (N := wr.heap.size) h.apart (fun y hy => h.lts y (by simp only [List.nil_append] at hy; exact List.mem_cons_of_mem _ hy)) hor
theorem SpM.growP (h : SpM w wr uc S vC vP vA vE cvs s) {vP' : Value} {x : Int} (hg : wr.grownBy w' vP.ownBlock) (hown : w'.ownsRow (S + 1) 3 1 vP' (s.par.length + 1) (s.par.map (Value.int .i64) ++ [.int .i64 x])) (hor : ∀ q, vP'.ownBlock = some q → vP.ownBlock = some q ∨ wr.heap.size ≤ q) :
  SpM w (w'.setCell ⟨S, 4, none⟩ vP') uc S vC vP' vA vE cvs { s with par := s.par ++ [x] } := by
 obtain ⟨b1, b2, b3, b4⟩ := h.base (v := vP) (by simp) hg
 have hS := h.hS
 obtain ⟨p1, p2⟩ := List.pairwise_cons.1 h.apart
 obtain ⟨p3, -⟩ := List.pairwise_cons.1 p2
 have hF : Frm (spF (w.heap.size + 2) S vC vP vA vE) wr (w'.setCell ⟨S, 4, none⟩ vP') := frm_set (frm_grow hg (fun q e => .inr (.inr (.inl e)))) (.inl (.inl rfl)) 4 vP'
 have hFF : ∀ q, spF (w.heap.size + 2) S vC vP' vA vE q → spF (w.heap.size + 2) S vC vP vA vE q ∨ wr.heap.size ≤ q := fun q hq => by
  rcases hq with e | e | e | e | e
  ·exact .inl (.inl e)
  ·exact .inl (.inr (.inl e))
  ·rcases hor q e with e | e
   ·exact .inl (.inr (.inr (.inl e)))
   ·exact .inr e
  ·exact .inl (.inr (.inr (.inr (.inl e))))
  ·exact .inl (.inr (.inr (.inr (.inr e))))
 refine ⟨b1.setCell (p := ⟨S, 4, none⟩) (by show w.heap.size ≤ S; omega) _, by rw [heap_set_ne (by omega)]; exact b2, by rw [heap_set_ne (by omega)]; exact b3, heap_setCell_block b4 4 vP', hS, h.len, ?_, fun j hj => (h.cf j hj).step hF hFF, ?_, ?_, ?_, ?_⟩
 ·exact (keptG h.oC hg (p1 vP (by simp)) |> fun o => ownsRow_setCell_below o (by show S < S + 1; omega) _)
 ·unfold OwnI
  rw [List.length_append, List.map_append]
  exact ownsRow_setCell_below hown (by show S < S + 1; omega) _
 ·exact (keptG h.oA hg (p3 vA (by simp)).symm |> fun o => ownsRow_setCell_below o (by show S < S + 1; omega) _)
 ·exact (keptG h.oE hg (p3 vE (by simp)).symm |> fun o => ownsRow_setCell_below o (by show S < S + 1; omega) _)
 ·exact ap_grow (V := [vC]) (U := [vA, vE]) (N := wr.heap.size) h.apart (fun y hy => h.lts y (by simp at hy; simp only [List.mem_cons]; rcases hy with e | e | e; exact .inl e; exact .inr (.inr (.inl e)); exact .inr (.inr (.inr (.inl e))))) hor
theorem SpM.growA (h : SpM w wr uc S vC vP vA vE cvs s) {vA' : Value} {x : Int} (hg : wr.grownBy w' vA.ownBlock) (hown : w'.ownsRow (S + 1) 3 1 vA' (s.ag.length + 1) (s.ag.map (Value.int .i64) ++ [.int .i64 x])) (hor : ∀ q, vA'.ownBlock = some q → vA.ownBlock = some q ∨ wr.heap.size ≤ q) :
  SpM w (w'.setCell ⟨S, 5, none⟩ vA') uc S vC vP vA' vE cvs { s with ag := s.ag ++ [x] } := by
 obtain ⟨b1, b2, b3, b4⟩ := h.base (v := vA) (by simp) hg
 have hS := h.hS
 obtain ⟨p1, p2⟩ := List.pairwise_cons.1 h.apart
 obtain ⟨p3, p4⟩ := List.pairwise_cons.1 p2
 obtain ⟨p5, -⟩ := List.pairwise_cons.1 p4
 have hF : Frm (spF (w.heap.size + 2) S vC vP vA vE) wr (w'.setCell ⟨S, 5, none⟩ vA') := frm_set (frm_grow hg (fun q e => .inr (.inr (.inr (.inl e))))) (.inl (.inl rfl)) 5 vA'
 have hFF : ∀ q, spF (w.heap.size + 2) S vC vP vA' vE q → spF (w.heap.size + 2) S vC vP vA vE q ∨ wr.heap.size ≤ q := fun q hq => by
  rcases hq with e | e | e | e | e
  ·exact .inl (.inl e)
  ·exact .inl (.inr (.inl e))
  ·exact .inl (.inr (.inr (.inl e)))
  ·rcases hor q e with e | e
   ·exact .inl (.inr (.inr (.inr (.inl e))))
   ·exact .inr e
  ·exact .inl (.inr (.inr (.inr (.inr e))))
 refine ⟨b1.setCell (p := ⟨S, 5, none⟩) (by show w.heap.size ≤ S; omega) _, by rw [heap_set_ne (by omega)]; exact b2, by rw [heap_set_ne (by omega)]; exact b3, heap_setCell_block b4 5 vA', hS, h.len, ?_, fun j hj => (h.cf j hj).step hF hFF, ?_, ?_, ?_, ?_⟩
 ·exact (keptG h.oC hg (p1 vA (by simp)) |> fun o => ownsRow_setCell_below o (by show S < S + 1; omega) _)
 ·exact (keptG h.oP hg (p3 vA (by simp)) |> fun o => ownsRow_setCell_below o (by show S < S + 1; omega) _)
 ·unfold OwnI
  rw [List.length_append, List.map_append]
  exact ownsRow_setCell_below hown (by show S < S + 1; omega) _
 ·exact (keptG h.oE hg (p5 vE (by simp)).symm |> fun o => ownsRow_setCell_below o (by show S < S + 1; omega) _)
 ·exact ap_grow (V := [vC, vP]) (U := [vE]) (N := wr.heap.size) h.apart (fun y hy => h.lts y (by simp at hy; simp only [List.mem_cons]; rcases hy with e | e | e; exact .inl e; exact .inr (.inl e); exact .inr (.inr (.inr (.inl e))))) hor
theorem SpM.growE (h : SpM w wr uc S vC vP vA vE cvs s) {vE' : Value} {x : Ed} (hg : wr.grownBy w' vE.ownBlock) (hown : w'.ownsRow (S + 1) 65 3 vE' (s.ed.length + 1) (edCells s.ed ++ edCells [x])) (hor : ∀ q, vE'.ownBlock = some q → vE.ownBlock = some q ∨ wr.heap.size ≤ q) :
  SpM w w' uc S vC vP vA vE' cvs { s with ed := s.ed ++ [x] } := by
 obtain ⟨b1, b2, b3, b4⟩ := h.base (v := vE) (by simp) hg
 obtain ⟨p1, p2⟩ := List.pairwise_cons.1 h.apart
 obtain ⟨p3, p4⟩ := List.pairwise_cons.1 p2
 obtain ⟨p5, -⟩ := List.pairwise_cons.1 p4
 have hF : Frm (spF (w.heap.size + 2) S vC vP vA vE) wr w' := frm_grow hg (fun q e => .inr (.inr (.inr (.inr e))))
 have hFF : ∀ q, spF (w.heap.size + 2) S vC vP vA vE' q → spF (w.heap.size + 2) S vC vP vA vE q ∨ wr.heap.size ≤ q := fun q hq => by
  rcases hq with e | e | e | e | e
  ·exact .inl (.inl e)
  ·exact .inl (.inr (.inl e))
  ·exact .inl (.inr (.inr (.inl e)))
  ·exact .inl (.inr (.inr (.inr (.inl e))))
  ·rcases hor q e with e | e
   ·exact .inl (.inr (.inr (.inr (.inr e))))
   ·exact .inr e
 refine ⟨b1, b2, b3, b4, h.hS, h.len, keptG h.oC hg (p1 vE (by simp)), fun j hj => (h.cf j hj).step hF hFF, keptG h.oP hg (p3 vE (by simp)), keptG h.oA hg (p5 vE (by simp)), ?_, ?_⟩
 ·rw [List.length_append, List.length_singleton]
  show w'.ownsRow (S + 1) 65 3 vE' (s.ed.length + 1) (edCells (s.ed ++ [x]))
  have : edCells (s.ed ++ [x]) = edCells s.ed ++ edCells [x] := by unfold edCells; rw [List.flatMap_append]
  rw [this]
  exact hown
 ·exact ap_grow (V := [vC, vP, vA]) (U := []) (N := wr.heap.size) h.apart (fun y hy => h.lts y (by simp at hy; simp only [List.mem_cons]; rcases hy with e | e | e; exact .inl e; exact .inr (.inl e); exact .inr (.inr (.inl e)))) hor
theorem SpM.nil (low : Below w.heap.size w wr) (bu : wr.heap[w.heap.size]? = some (.cells uc 25 (0, 0))) (br : wr.heap[w.heap.size + 1]? = some (.cells #[.slice none 0 0, .slice none 0 0, .slice none 0 0, .slice none 0 0, .slice none 0 0, .slice none 0 0] 32 (0, 0)))
  (bs : wr.heap[S]? = some (.cells #[.slice none 0 0, .slice none 0 0, .slice none 0 0, .slice none 0 0, .slice none 0 0, .slice none 0 0] 32 (0, 0))) (hS : w.heap.size + 2 ≤ S) : SpM w wr uc S (.slice none 0 0) (.slice none 0 0) (.slice none 0 0) (.slice none 0 0) [] ⟨[], [], [], []⟩ :=
 ⟨low, bu, br, bs, hS, rfl, World.ownsRow_nil _ _ _ _, fun j hj => by simp at hj, World.ownsRow_nil _ _ _ _, World.ownsRow_nil _ _ _ _, World.ownsRow_nil _ _ _ _, List.pairwise_replicate (n := 4).2 (.inr (ap_nil _))⟩
end
def foundRel (base : Nat) (c : Cf) (vs : List Value) (j : Nat) (v : Value) (w : World) : Prop :=
 if j = 12 ∨ j = 13 then ∃ a, v = .tuple #[a, .bool true] ∧ cfRel base c a w else if j = 14 then cfRel base c v w
 else if j = 16 then ∃ b, v = .pointer (some ⟨b, 0, none⟩) ∧ base ≤ b ∧ w.heap[b]? = some (.cells #[.slice none 0 0, .slice none 0 0, .slice none 0 0, .slice none 0 0] 52 (0, 0)) else v = vs.getD j undef
theorem foundRel_mono {base : Nat} {c : Cf} {vs : List Value} {j : Nat} {v : Value} {w w' : World} (hb : Below w.heap.size w w') (h : foundRel base c vs j v w) : foundRel base c vs j v w' := by
 unfold foundRel at h ⊢
 split
 ·rename_i e
  rw [if_pos e] at h
  obtain ⟨a, e2, h⟩ := h
  exact ⟨a, e2, h.more hb⟩
 ·rename_i e
  rw [if_neg e] at h
  split
  ·rename_i e3
   rw [if_pos e3] at h
   exact h.more hb
  ·rename_i e3
   rw [if_neg e3] at h
   split
   ·rename_i e4
    rw [if_pos e4] at h
    obtain ⟨b, e5, h1, h2⟩ := h
    exact ⟨b, e5, h1, bheap hb h2⟩
   ·rename_i e4
    rw [if_neg e4] at h
    exact h
def foundW (c : Cf) (a b : Value) (w w' : World) : Prop := ∃ bD s0 t0 s1 t1 s2 t2 s3 t3, b = .pointer (some ⟨bD, 0, none⟩) ∧ a = .agg #[.slice s0 c.pc.length t0, .slice s1 c.regs.length t1, .slice s2 c.mem.length t2, .slice s3 c.buf.length t3] ∧
 w' = (((w.setCell ⟨bD, 0, none⟩ (.slice s0 c.pc.length t0)).setCell ⟨bD, 1, none⟩ (.slice s1 c.regs.length t1)).setCell ⟨bD, 2, none⟩ (.slice s2 c.mem.length t2)).setCell ⟨bD, 3, none⟩ (.slice s3 c.buf.length t3)
theorem CfOk.cfL {u : PUn} {L : Nat} {c : Cf} (h : CfOk u L c) (hR : rightU u = true) (hL : L ≤ 1000) : CfL c := by
 obtain ⟨-, -, h3, ⟨h4, h5⟩, -, h6⟩ := rightU_iff.1 hR
 refine ⟨by rw [h.npc]; omega, by rw [h.nmem]; omega, by rw [h.nregs]; omega, by rw [h.nbuf]; omega, fun j hj => ?_, fun j hj => ?_⟩
 ·rw [h.nregs] at hj
  have h1 := h.rlen j hj
  have h2 := (rowU_iff.1 (h6 j hj)).1
  omega
 ·have := h.blen j (by rw [← h.nbuf]; exact hj)
  omega
theorem ints_cell {w : World} {b o n c j : Nat} {l : List Int} (h : IntsAt w (.slice (some ⟨b, o, none⟩) n c) l) (hj : j < l.length) : w.cell? ⟨b, o + j, none⟩ = some (.int .i64 (l.getD j 0)) := by
 obtain ⟨a, c', e, h⟩ := h
 cases e
 obtain ⟨b', o', e2, h2⟩ := h j hj
 cases e2
 exact h2
end Go.Proofs.Ytlhpjfnfemebdaa
namespace Go.Proofs.Ytlhpjfnfemebdaa
open Go.RowKit
theorem confs_of {base : Nat} {wr : World} {vC : Value} {cvs : List V4} {cs : List Cf} (oC : wr.ownsRow base 52 4 vC cvs.length (cells4 cvs)) (hl : cvs.length = cs.length) (hcf : ∀ j, j < cs.length → CfV wr (agg4 (cvs.getD j v40)) (cs.getD j cf0)) : ConfsAt wr vC cs := by
 obtain ⟨a, cap, rfl⟩ := ownv oC
 refine ⟨a, cap, by rw [hl], fun j hj => ?_⟩
 obtain ⟨g, cap', e, -, -⟩ := World.ownsRow.form oC (by omega)
 cases e
 have hc : ∀ i, i < 4 → wr.cell? ⟨g, j * 4 + i, none⟩ = [(cvs.getD j v40).1, (cvs.getD j v40).2.1, (cvs.getD j v40).2.2.1, (cvs.getD j v40).2.2.2][i]? := fun i hi => by
  rw [World.ownsRow.cellAt oC (j * 4 + i) (by omega), cells4_get (by omega) hi]
 refine ⟨g, 0, (cvs.getD j v40).1, (cvs.getD j v40).2.1, (cvs.getD j v40).2.2.1, (cvs.getD j v40).2.2.2, rfl, ?_, ?_, ?_, ?_, hcf j hj⟩
 ·have := hc 0 (by omega); simpa using this
 ·have := hc 1 (by omega); simpa using this
 ·have := hc 2 (by omega); simpa using this
 ·have := hc 3 (by omega); simpa using this
theorem IntsAt.off {w w' : World} {v : Value} {l : List Int} {b : Nat} {c : Array Value} {t : TypeId} {fr : Nat × Nat} (h : IntsAt w v l) (hb : w.heap[b]? = some (.cells c t fr)) (hc : ∀ (i : Nat) (x : Int), c[i]? ≠ some (.int .i64 x)) (hf : Frm (fun k => k = b) w w') : IntsAt w' v l := by
 obtain ⟨a, cap, e, h1⟩ := h
 refine ⟨a, cap, e, fun j hj => ?_⟩
 obtain ⟨b', o', e2, h2⟩ := h1 j hj
 refine ⟨b', o', e2, ?_⟩
 have hne : b' ≠ b := fun e3 => by
  subst e3
  have h3 := h2
  unfold World.cell? at h3
  simp only [hb] at h3
  simp at h3
  exact hc _ _ h3
 have hlt := World.block_lt_of_cell? w ⟨b', o' + j, none⟩ h2
 have hk := hf.block b' hlt hne
 unfold World.cell? at h2 ⊢
 rw [hk]
 exact h2
theorem GraphAt.offC {w w' : World} {v : Value} {g : Gr} {b : Nat} {c : Array Value} {t : TypeId} {fr : Nat × Nat} (h : GraphAt w v g) (hb : w.heap[b]? = some (.cells c t fr)) (hc : ∀ (i : Nat) (x : Int), c[i]? ≠ some (.int .i64 x)) (hf : Frm (fun k => k = b) w w') : GraphAt w' v g := by
 obtain ⟨⟨s, a, t, e, h1, h2, h3⟩, h4, h5, h6⟩ := h
 exact ⟨⟨s, a, t, e, h1.off hb hc hf, h2.off hb hc hf, h3.off hb hc hf⟩, h4, h5, h6⟩
theorem sp_end {w wx wE : World} {uc : Array Value} {S : Nat} {vC vP vA vE : Value} {cvs : List V4} {s : Sp} (M : SpM w wx uc S vC vP vA vE cvs s) (hf : Frm (fun q => q = S ∨ q = w.heap.size + 1) wx wE) : ConfsAt wE vC s.confs ∧ IntsAt wE vP s.par ∧ IntsAt wE vA s.ag ∧ Below w.heap.size w wE := by
 have hS := M.hS
 have hF : ∀ {v : Value} {e : TypeId} {size n : Nat} {xs : List Value}, wx.ownsRow (S + 1) e size v n xs → wE.ownsRow (S + 1) e size v n xs := fun ho => ownsRow_frm ho hf fun k e hk => by
  have := (World.ownsRow.lt ho k e).1
  rcases hk with e | e <;> omega
 have hsp : Frm (spF (w.heap.size + 2) S vC vP vA vE) wx wE := hf.mono fun k _ hk => .inl (hk.imp id (fun e => by omega))
 refine ⟨confs_of (hF M.oC) M.len fun j hj => M.cf j hj wE hsp, OwnI.ints (hF M.oP), OwnI.ints (hF M.oA), M.low.trans (hf.below (fun k hk => by rcases hk with e | e <;> omega) M.low.size)⟩
def SpT (F : Nat → Prop) (w : World) (v : Value) (s : Sp) : Prop := ∃ vC x1 x2 x3 vP vA, v = .agg #[vC, x1, x2, x3, vP, vA] ∧ St F (fun w => ConfsAt w vC s.confs) w ∧ St F (fun w => IntsAt w vP s.par) w ∧ St F (fun w => IntsAt w vA s.ag) w
theorem SpV.keep {F : Nat → Prop} {w w' : World} {v : Value} {s : Sp} (h : SpV w v s) (ht : SpT F w v s) (hf : Frm F w w') (hg : ∀ g, GraphAt w g (buildG s.confs.length s.ed) → GraphAt w' g (buildG s.confs.length s.ed)) : SpV w' v s := by
 obtain ⟨vC, sa, sc, aa, ac, ta, tc, vP, vA, rfl, h1, h2, h3, h4⟩ := h.var
 obtain ⟨vC', x1, x2, x3, vP', vA', e, t1, t2, t3⟩ := ht
 simp only [Value.agg.injEq, Array.mk.injEq, List.cons.injEq, and_true] at e
 obtain ⟨rfl, rfl, rfl, rfl, rfl, rfl⟩ := e
 exact ⟨_, sa, sc, aa, ac, ta, tc, _, _, rfl, t1 w' hf, hg _ h2, t2 w' hf, t3 w' hf⟩
theorem sp_end2 {w wx wE : World} {uc : Array Value} {S : Nat} {vC vP vA vE x1 x2 x3 : Value} {cvs : List V4} {s : Sp} (M : SpM w wx uc S vC vP vA vE cvs s) (hf : Frm (fun q => q = S ∨ q = w.heap.size + 1) wx wE) : SpT (fun q => q < w.heap.size) wE (.agg #[vC, x1, x2, x3, vP, vA]) s := by
 have hS := M.hS
 have hb := M.low.size
 have key : ∀ w', Frm (fun q => q < w.heap.size) wE w' → Frm (fun q => q = S ∨ q < w.heap.size + 2) wx w' := fun w' hw => (hf.mono (fun k _ hk => hk.imp id (fun e => by omega))).trans2 hw (fun i _ hi => .inr (by omega))
 have hF : ∀ {v : Value} {e : TypeId} {size n : Nat} {xs : List Value} {w' : World}, Frm (fun q => q < w.heap.size) wE w' → wx.ownsRow (S + 1) e size v n xs → w'.ownsRow (S + 1) e size v n xs := fun hw ho => ownsRow_frm ho (key _ hw) fun k e hk => by
  have := (World.ownsRow.lt ho k e).1
  rcases hk with e | e <;> omega
 refine ⟨_, _, _, _, _, _, rfl, fun w' hw => ?_, fun w' hw => OwnI.ints (hF hw M.oP), fun w' hw => OwnI.ints (hF hw M.oA)⟩
 exact confs_of (hF hw M.oC) M.len fun j hj => M.cf j hj w' ((key w' hw).mono fun k _ hk => .inl hk)
end Go.Proofs.Ytlhpjfnfemebdaa
