/-
  Act's memory: the copy's rows, stored into one by one.
-/
import Derived.Test.YtlhpjfnfemebdaaMachY
import Derived.Test.YtlhpjfnfemebdaaMachZ
namespace Go.Proofs.Ytlhpjfnfemebdaa
open Go.RowKit
structure ActM (w wr : World) (ua ca da xa : Array Value) (D X : Nat) : Prop where
 low : Below w.heap.size w wr
 b1 : wr.heap[w.heap.size]? = some (.cells ua 25 (0, 0))
 b2 : wr.heap[w.heap.size + 1]? = some (.cells ca 52 (0, 0))
 b3 : wr.heap[w.heap.size + 1 + 1]? = some (.cells #[.slice none 0 0, .slice none 0 0, .slice none 0 0, .slice none 0 0] 52 (0, 0))
 bd : wr.heap[D]? = some (.cells da 52 (0, 0))
 bx : wr.heap[X]? = some (.cells xa 61 (0, 0))
 hD : w.heap.size + 3 ≤ D
 hX : D < X
section
variable {w wr w' : World} {ua ca da xa : Array Value} {D X : Nat}
theorem ActM.set (h : ActM w wr ua ca da xa D X) {g i : Nat} (h1 : w.heap.size + 3 ≤ g) (h2 : g < D) (v : Value) : ActM w (wr.setCell ⟨g, i, none⟩ v) ua ca da xa D X := by
 have hX := h.hX
 refine ⟨h.low.setCell (p := ⟨g, i, none⟩) (by show w.heap.size ≤ g; omega) v, ?_, ?_, ?_, ?_, ?_, h.hD, h.hX⟩
 ·rw [heap_set_ne (by omega)]; exact h.b1
 ·rw [heap_set_ne (by omega)]; exact h.b2
 ·rw [heap_set_ne (by omega)]; exact h.b3
 ·rw [heap_set_ne (by omega)]; exact h.bd
 ·rw [heap_set_ne (by omega)]; exact h.bx
theorem ActM.more (h : ActM w wr ua ca da xa D X) (hb : Below wr.heap.size wr w') : ActM w w' ua ca da xa D X :=
 ⟨h.low.trans (hb.mono h.low.size), bheap hb h.b1, bheap hb h.b2, bheap hb h.b3, bheap hb h.bd, bheap hb h.bx, h.hD, h.hX⟩
theorem ActM.drew (h : ActM w wr ua ca da xa D X) : ActM w wr.drew ua ca da xa D X := ⟨h.low.drew, h.b1, h.b2, h.b3, h.bd, h.bx, h.hD, h.hX⟩
end
theorem OwnC.drew {base : Nat} {w : World} {vp vr vm vb : Value} {rv bv : List Value} {c : Cf} (h : OwnC base w vp vr vm vb rv bv c) : OwnC base w.drew vp vr vm vb rv bv c := h.more ((Below.refl _ _).drew)
theorem OwnC.lts {base : Nat} {w : World} {vp vr vm vb : Value} {rv bv : List Value} {c : Cf} (h : OwnC base w vp vr vm vb rv bv c) : ∀ v ∈ vp :: vr :: vm :: vb :: (rv ++ bv), ∀ q, v.ownBlock = some q → q < w.heap.size := fun v hv q e => by
 simp only [List.mem_cons, List.mem_append] at hv
 rcases hv with rfl | rfl | rfl | rfl | hv | hv
 ·exact (World.ownsRow.lt h.pc q e).2
 ·exact (World.ownsRow.lt h.regs.out q e).2
 ·exact (World.ownsRow.lt h.mem q e).2
 ·exact (World.ownsRow.lt h.buf.out q e).2
 ·exact h.regs.lts v hv q e
 ·exact h.buf.lts v hv q e
theorem alloc_size (w : World) (o : Obj) : (w.alloc o).heap.size = w.heap.size + 1 := by simp
theorem OwnC.npc {base : Nat} {w : World} {a : Option Addr} {n k : Nat} {vr vm vb : Value} {rv bv : List Value} {c : Cf} (h : OwnC base w (.slice a n k) vr vm vb rv bv c) : n = c.pc.length := by
 obtain ⟨_, _, e⟩ := ownv h.pc
 cases e; rfl
theorem OwnC.nmem {base : Nat} {w : World} {a : Option Addr} {n k : Nat} {vp vr vb : Value} {rv bv : List Value} {c : Cf} (h : OwnC base w vp vr (.slice a n k) vb rv bv c) : n = c.mem.length := by
 obtain ⟨_, _, e⟩ := ownv h.mem
 cases e; rfl
theorem OwnC.nregs {base : Nat} {w : World} {a : Option Addr} {n k : Nat} {vp vm vb : Value} {rv bv : List Value} {c : Cf} (h : OwnC base w vp (.slice a n k) vm vb rv bv c) : n = c.regs.length := by
 obtain ⟨_, _, e⟩ := ownv h.regs.out
 cases e; rfl
theorem OwnC.nbuf {base : Nat} {w : World} {a : Option Addr} {n k : Nat} {vp vr vm : Value} {rv bv : List Value} {c : Cf} (h : OwnC base w vp vr vm (.slice a n k) rv bv c) : n = c.buf.length := by
 obtain ⟨_, _, e⟩ := ownv h.buf.out
 cases e; rfl
structure ActW (w wr : World) (ua ca xa : Array Value) (D X gp kp gr kr : Nat) (am : Option Addr) (km gb kb np nr nm nb : Nat) (rv bv : List Value) (c : Cf) : Prop where
 m : ActM w wr ua ca #[.slice (some ⟨gp, 0, none⟩) np kp, .slice (some ⟨gr, 0, none⟩) nr kr, .slice am nm km, .slice (some ⟨gb, 0, none⟩) nb kb] xa D X
 o : OwnC (w.heap.size + 3) wr (.slice (some ⟨gp, 0, none⟩) np kp) (.slice (some ⟨gr, 0, none⟩) nr kr) (.slice am nm km) (.slice (some ⟨gb, 0, none⟩) nb kb) rv bv c
 lt : ∀ v ∈ (.slice (some ⟨gp, 0, none⟩) np kp : Value) :: .slice (some ⟨gr, 0, none⟩) nr kr :: .slice am nm km :: .slice (some ⟨gb, 0, none⟩) nb kb :: (rv ++ bv), ∀ q, v.ownBlock = some q → q < D
section
variable {w wr w' : World} {ua ca xa : Array Value} {D X gp kp gr kr : Nat} {am : Option Addr} {km gb kb np nr nm nb : Nat} {rv bv : List Value} {c : Cf}
theorem ActW.more (h : ActW w wr ua ca xa D X gp kp gr kr am km gb kb np nr nm nb rv bv c) (hb : Below wr.heap.size wr w') : ActW w w' ua ca xa D X gp kp gr kr am km gb kb np nr nm nb rv bv c := ⟨h.m.more hb, h.o.more hb, h.lt⟩
theorem ActW.drew (h : ActW w wr ua ca xa D X gp kp gr kr am km gb kb np nr nm nb rv bv c) : ActW w wr.drew ua ca xa D X gp kp gr kr am km gb kb np nr nm nb rv bv c := ⟨h.m.drew, h.o.drew, h.lt⟩
theorem ActW.setPc (h : ActW w wr ua ca xa D X gp kp gr kr am km gb kb np nr nm nb rv bv c) {t : Nat} (ht : t < c.pc.length) (x : Int) :
  ActW w (wr.setCell ⟨gp, t, none⟩ (.int .i64 x)) ua ca xa D X gp kp gr kr am km gb kb np nr nm nb rv bv { c with pc := c.pc.set t x } ∧ wr.frozen? ⟨gp, t, none⟩ = false ∧ wr.cell? ⟨gp, t, none⟩ = some (.int .i64 (c.pc.getD t 0)) := by
 obtain rfl := h.o.npc
 obtain ⟨s1, s2⟩ := h.o.setPc ht x
 exact ⟨⟨h.m.set (World.ownsRow.lt h.o.pc gp rfl).1 (h.lt _ (List.mem_cons_self ..) gp rfl) _, s1, h.lt⟩, s2, h.o.pc.cell ht⟩
theorem ActW.setMem (h : ActW w wr ua ca xa D X gp kp gr kr am km gb kb np nr nm nb rv bv c) {l : Nat} (hl : l < c.mem.length) :
  ∃ g, am = some ⟨g, 0, none⟩ ∧ wr.frozen? ⟨g, l, none⟩ = false ∧ wr.cell? ⟨g, l, none⟩ = some (.int .i64 (c.mem.getD l 0)) ∧ ∀ x, ActW w (wr.setCell ⟨g, l, none⟩ (.int .i64 x)) ua ca xa D X gp kp gr kr am km gb kb np nr nm nb rv bv { c with mem := c.mem.set l x } := by
 obtain ⟨g, cap, e, -, -⟩ := OwnI.form h.o.mem (by omega)
 cases e
 refine ⟨g, rfl, (h.o.setMem hl 0).2, h.o.mem.cell hl, fun x => ?_⟩
 exact ⟨h.m.set (World.ownsRow.lt h.o.mem g rfl).1 (h.lt (.slice (some ⟨g, 0, none⟩) c.mem.length km) (by simp) g rfl) _, (h.o.setMem hl x).1, h.lt⟩
theorem ActW.setReg (h : ActW w wr ua ca xa D X gp kp gr kr am km gb kb np nr nm nb rv bv c) {t r : Nat} (ht : t < c.regs.length) (hr : r < (c.regs.getD t []).length) :
  ∃ g cap, wr.cell? ⟨gr, t, none⟩ = some (.slice (some ⟨g, 0, none⟩) (c.regs.getD t []).length cap) ∧ wr.frozen? ⟨g, r, none⟩ = false ∧ wr.cell? ⟨g, r, none⟩ = some (.int .i64 ((c.regs.getD t []).getD r 0)) ∧ ∀ x, ActW w (wr.setCell ⟨g, r, none⟩ (.int .i64 x)) ua ca xa D X gp kp gr kr am km gb kb np nr nm nb rv bv { c with regs := c.regs.set t ((c.regs.getD t []).set r x) } := by
 obtain rfl := h.o.nregs
 have hl := h.o.regs.len
 have hin := h.o.regs.inn t ht
 obtain ⟨g, cap, e, -, -⟩ := OwnI.form hin (by omega)
 have hc := World.ownsRow.cellAt h.o.regs.out t (by omega)
 have hm : rv.getD t undef ∈ rv := by simp [List.getD, show t < rv.length by omega]
 refine ⟨g, cap, ?_, (h.o.setReg ht e hr 0).2, ?_, fun x => ?_⟩
 ·rw [hc, ← e, List.getD_eq_getElem?_getD, List.getElem?_eq_getElem (by omega)]; rfl
 ·rw [e] at hin; exact OwnI.cell hin hr
 ·exact ⟨h.m.set (World.ownsRow.lt hin g (by rw [e]; rfl)).1 (h.lt (rv.getD t undef) (by simp only [List.mem_cons, List.mem_append]; exact .inr (.inr (.inr (.inr (.inl hm))))) g (by rw [e]; rfl)) _, (h.o.setReg ht e hr x).1, h.lt⟩
theorem ActW.setReg' (h : ActW w wr ua ca xa D X gp kp gr kr am km gb kb np nr nm nb rv bv c) {t r : Nat} (ht : t < c.regs.length) (hr : r < (c.regs.getD t []).length) :
  ∃ g cap, wr.cell? ⟨gr, t, none⟩ = some (.slice (some ⟨g, 0, none⟩) (c.regs.getD t []).length cap) ∧ ∀ w', Below wr.heap.size wr w' → w'.frozen? ⟨g, r, none⟩ = false ∧ w'.cell? ⟨g, r, none⟩ = some (.int .i64 ((c.regs.getD t []).getD r 0)) ∧ ∀ x, ActW w (w'.setCell ⟨g, r, none⟩ (.int .i64 x)) ua ca xa D X gp kp gr kr am km gb kb np nr nm nb rv bv { c with regs := c.regs.set t ((c.regs.getD t []).set r x) } := by
 obtain ⟨g, cap, c1, -⟩ := h.setReg ht hr
 refine ⟨g, cap, c1, fun w' hb => ?_⟩
 obtain ⟨g', cap', c2, f2, v2, H⟩ := (h.more hb).setReg ht hr
 have e := (bkeep hb c1).symm.trans c2
 cases e
 exact ⟨f2, v2, H⟩
theorem ActW.setMem' (h : ActW w wr ua ca xa D X gp kp gr kr am km gb kb np nr nm nb rv bv c) {l : Nat} (hl : l < c.mem.length) :
  ∃ g, am = some ⟨g, 0, none⟩ ∧ ∀ w', Below wr.heap.size wr w' → w'.frozen? ⟨g, l, none⟩ = false ∧ w'.cell? ⟨g, l, none⟩ = some (.int .i64 (c.mem.getD l 0)) ∧ ∀ x, ActW w (w'.setCell ⟨g, l, none⟩ (.int .i64 x)) ua ca xa D X gp kp gr kr am km gb kb np nr nm nb rv bv { c with mem := c.mem.set l x } := by
 obtain ⟨g, rfl, -⟩ := h.setMem hl
 refine ⟨g, rfl, fun w' hb => ?_⟩
 obtain ⟨g', e, H⟩ := (h.more hb).setMem hl
 cases e
 exact H
theorem ActW.setBuf (h : ActW w wr ua ca xa D X gp kp gr kr am km gb kb np nr nm nb rv bv c) {t : Nat} (ht : t < c.buf.length) {w' : World} (hb : Below wr.heap.size wr w') {nv : Value} {row : List En} (hn : OwnE wr.heap.size w' nv row) :
  w'.frozen? ⟨gb, t, none⟩ = false ∧ (∃ y, w'.cell? ⟨gb, t, none⟩ = some y) ∧ ActM w (w'.setCell ⟨gb, t, none⟩ nv) ua ca #[.slice (some ⟨gp, 0, none⟩) np kp, .slice (some ⟨gr, 0, none⟩) nr kr, .slice am nm km, .slice (some ⟨gb, 0, none⟩) nb kb] xa D X ∧
   OwnC (w.heap.size + 3) (w'.setCell ⟨gb, t, none⟩ nv) (.slice (some ⟨gp, 0, none⟩) np kp) (.slice (some ⟨gr, 0, none⟩) nr kr) (.slice am nm km) (.slice (some ⟨gb, 0, none⟩) nb kb) rv (bv.set t nv) { c with buf := c.buf.set t row } := by
 obtain rfl := h.o.nbuf
 have hl := h.o.buf.len
 have hX : X < wr.heap.size := (Array.getElem?_eq_some_iff.1 h.m.bx).1
 have hDX := h.m.hX
 have hD := h.m.hD
 have h' := h.more hb
 obtain ⟨s1, s2⟩ := h'.o.setBuf ht (N := D) h.lt (ownlow hn (by omega)) (fun q e => by have := (World.ownsRow.lt hn q e).1; omega)
 have hc := World.ownsRow.cellAt h'.o.buf.out t (by omega)
 rw [List.getElem?_eq_getElem (by omega)] at hc
 exact ⟨s2, ⟨_, hc⟩, h'.m.set (World.ownsRow.lt h'.o.buf.out gb rfl).1 (h.lt (.slice (some ⟨gb, 0, none⟩) c.buf.length kb) (by simp) gb rfl) _, s1⟩
def pushRel (w8 : World) (row : List En) (vs : List Value) (j : Nat) (v : Value) (w' : World) : Prop := if j = 13 then (∃ na nl nc, v = .slice na nl nc ∧ OwnE w8.heap.size w' v row) else v = vs.getD j undef
theorem pushRel_mono {w8 : World} {row : List En} {vs : List Value} {j : Nat} {v : Value} {w w' : World} (hb : Below w.heap.size w w') (h : pushRel w8 row vs j v w) : pushRel w8 row vs j v w' := by
 unfold pushRel at h ⊢
 split
 ·rename_i e
  rw [if_pos e] at h
  obtain ⟨na, nl, nc, e2, h⟩ := h
  exact ⟨na, nl, nc, e2, h.more hb⟩
 ·rename_i e
  rw [if_neg e] at h
  exact h
theorem act_end {w wr : World} {ua ca xa : Array Value} {D X : Nat} {v0 v1 v2 v3 : Value} {rv bv : List Value} {c : Cf} (m : ActM w wr ua ca #[v0, v1, v2, v3] xa D X) (o : OwnC (w.heap.size + 3) wr v0 v1 v2 v3 rv bv c) :
  OwnC w.heap.size ((((wr.setCell ⟨w.heap.size + 1 + 1, 0, none⟩ v0).setCell ⟨w.heap.size + 1 + 1, 1, none⟩ v1).setCell ⟨w.heap.size + 1 + 1, 2, none⟩ v2).setCell ⟨w.heap.size + 1 + 1, 3, none⟩ v3) v0 v1 v2 v3 rv bv c ∧
  Below w.heap.size w ((((wr.setCell ⟨w.heap.size + 1 + 1, 0, none⟩ v0).setCell ⟨w.heap.size + 1 + 1, 1, none⟩ v1).setCell ⟨w.heap.size + 1 + 1, 2, none⟩ v2).setCell ⟨w.heap.size + 1 + 1, 3, none⟩ v3) ∧
  ((((wr.setCell ⟨w.heap.size + 1 + 1, 0, none⟩ v0).setCell ⟨w.heap.size + 1 + 1, 1, none⟩ v1).setCell ⟨w.heap.size + 1 + 1, 2, none⟩ v2).setCell ⟨w.heap.size + 1 + 1, 3, none⟩ v3).cell? ⟨w.heap.size + 1 + 1, 0, none⟩ = some v0 ∧
  ((((wr.setCell ⟨w.heap.size + 1 + 1, 0, none⟩ v0).setCell ⟨w.heap.size + 1 + 1, 1, none⟩ v1).setCell ⟨w.heap.size + 1 + 1, 2, none⟩ v2).setCell ⟨w.heap.size + 1 + 1, 3, none⟩ v3).cell? ⟨w.heap.size + 1 + 1, 1, none⟩ = some v1 ∧
  ((((wr.setCell ⟨w.heap.size + 1 + 1, 0, none⟩ v0).setCell ⟨w.heap.size + 1 + 1, 1, none⟩ v1).setCell ⟨w.heap.size + 1 + 1, 2, none⟩ v2).setCell ⟨w.heap.size + 1 + 1, 3, none⟩ v3).cell? ⟨w.heap.size + 1 + 1, 2, none⟩ = some v2 ∧
  ((((wr.setCell ⟨w.heap.size + 1 + 1, 0, none⟩ v0).setCell ⟨w.heap.size + 1 + 1, 1, none⟩ v1).setCell ⟨w.heap.size + 1 + 1, 2, none⟩ v2).setCell ⟨w.heap.size + 1 + 1, 3, none⟩ v3).cell? ⟨w.heap.size + 1 + 1, 3, none⟩ = some v3 := by
 have hB : w.heap.size + 1 + 1 < w.heap.size + 3 := by omega
 have hW : w.heap.size ≤ w.heap.size + 1 + 1 := by omega
 have OF := ((((o.setlow (i := 0) hB v0).setlow (i := 1) hB v1).setlow (i := 2) hB v2).setlow (i := 3) hB v3).low (show w.heap.size ≤ w.heap.size + 3 by omega)
 have kb := heap_setCell_block (i := 3) (v := v3) (heap_setCell_block (i := 2) (v := v2) (heap_setCell_block (i := 1) (v := v1) (heap_setCell_block (i := 0) (v := v0) m.b3)))
 have BF := (((m.low.setCell (p := ⟨w.heap.size + 1 + 1, 0, none⟩) hW v0).setCell (p := ⟨w.heap.size + 1 + 1, 1, none⟩) hW v1).setCell (p := ⟨w.heap.size + 1 + 1, 2, none⟩) hW v2).setCell (p := ⟨w.heap.size + 1 + 1, 3, none⟩) hW v3
 exact ⟨OF, BF, cell_of_block kb 0 v0 rfl, cell_of_block kb 1 v1 rfl, cell_of_block kb 2 v2 rfl, cell_of_block kb 3 v3 rfl⟩
end
end Go.Proofs.Ytlhpjfnfemebdaa
