/-
  A store goes out: step.Flush. (Written by gen_flush.py.) Of a built graph: its edges, its nodes. (Out of XBase, by lack.py.) Numbers by first occurrence, and the rows of equal numbers: plain. The rows of equal numbers, in the order of their first ones: plain. The parts of a graph: plain. scc.Parts: its memory. The memory of conf.Start: rows that grow side by side; what it begins with can be.
-/
import Derived.ScopeJumps
import Derived.StillTactics
import Derived.Test.YtlhpjfnfemebdaaActB
import Derived.Test.YtlhpjfnfemebdaaJMachQ
import Derived.Test.YtlhpjfnfemebdaaJBase
import Derived.BigQuiet
import Derived.Deep.DeepCutAuto
import Derived.Deep.DeepFit
import Derived.Deep.DeepMust
import Derived.Deep.LoopGhost
import Derived.Deep.QuietTactic
import Derived.Deep.Slices
import Derived.KernelRfl
import Derived.Lib.Hide
import Derived.StillTailTactics
import Derived.WalkKit
import Derived.WalkLawsBesides
import Derived.WalkSpells
import Derived.Maps.OwnSet
import Derived.Test.YtlhpjfnfemebdaaJRunMem
import Derived.Test.YtlhpjfnfemebdaaMachY
namespace Go.Proofs.Ytlhpjfnfemebdaa
open Go.RowKit
structure FlM (w wr : World) (uc : Array Value) (D : Nat) (d0 d1 d2 d3 : Value) : Prop where
 low : Below w.heap.size w wr
 bu : wr.heap[w.heap.size]? = some (.cells uc 52 (0, 0))
 br : wr.heap[w.heap.size + 1]? = some (.cells #[.slice none 0 0, .slice none 0 0, .slice none 0 0, .slice none 0 0] 52 (0, 0))
 bd : wr.heap[D]? = some (.cells #[d0, d1, d2, d3] 52 (0, 0))
 hD : w.heap.size + 2 ≤ D
section
variable {w wr w' : World} {uc : Array Value} {D : Nat} {d0 d1 d2 d3 : Value}
theorem FlM.size (h : FlM w wr uc D d0 d1 d2 d3) : D + 1 ≤ wr.heap.size := (Array.getElem?_eq_some_iff.1 h.bd).1
theorem FlM.alloc (h : FlM w wr uc D d0 d1 d2 d3) (o : Obj) : FlM w (wr.alloc o) uc D d0 d1 d2 d3 :=
 ⟨h.low.trans ((balloc wr o).mono h.low.size), bheap (balloc wr o) h.bu, bheap (balloc wr o) h.br, bheap (balloc wr o) h.bd, h.hD⟩
theorem FlM.grown (h : FlM w wr uc D d0 d1 d2 d3) {r : Option Nat} (hg : wr.grownBy w' r) (hr : ∀ k, r = some k → D + 1 ≤ k) : FlM w w' uc D d0 d1 d2 d3 := by
 have hs := h.size
 have hD := h.hD
 refine ⟨h.low.grown hg h.low.size (fun k hk => by have := hr k hk; omega), ?_, ?_, ?_, hD⟩
 ·rw [hg.block _ (by omega) (fun e => by have := hr _ e.symm; omega)]; exact h.bu
 ·rw [hg.block _ (by omega) (fun e => by have := hr _ e.symm; omega)]; exact h.br
 ·rw [hg.block _ (by omega) (fun e => by have := hr _ e.symm; omega)]; exact h.bd
theorem FlM.more (h : FlM w wr uc D d0 d1 d2 d3) (hb : Below wr.heap.size wr w') : FlM w w' uc D d0 d1 d2 d3 := ⟨h.low.trans (hb.mono h.low.size), bheap hb h.bu, bheap hb h.br, bheap hb h.bd, h.hD⟩
theorem FlM.drew (h : FlM w wr uc D d0 d1 d2 d3) : FlM w wr.drew uc D d0 d1 d2 d3 := ⟨h.low.drew, h.bu, h.br, h.bd, h.hD⟩
theorem FlM.put0 (h : FlM w wr uc D d0 d1 d2 d3) (v : Value) : FlM w (wr.setCell ⟨D, 0, none⟩ v) uc D v d1 d2 d3 :=
 ⟨h.low.setCell (p := ⟨D, 0, none⟩) (by have := h.hD; show w.heap.size ≤ D; omega) v, by rw [heap_set_ne (by have := h.hD; omega)]; exact h.bu, by rw [heap_set_ne (by have := h.hD; omega)]; exact h.br, heap_setCell_block h.bd 0 v, h.hD⟩
theorem FlM.put1 (h : FlM w wr uc D d0 d1 d2 d3) (v : Value) : FlM w (wr.setCell ⟨D, 1, none⟩ v) uc D d0 v d2 d3 :=
 ⟨h.low.setCell (p := ⟨D, 1, none⟩) (by have := h.hD; show w.heap.size ≤ D; omega) v, by rw [heap_set_ne (by have := h.hD; omega)]; exact h.bu, by rw [heap_set_ne (by have := h.hD; omega)]; exact h.br, heap_setCell_block h.bd 1 v, h.hD⟩
theorem FlM.put2 (h : FlM w wr uc D d0 d1 d2 d3) (v : Value) : FlM w (wr.setCell ⟨D, 2, none⟩ v) uc D d0 d1 v d3 :=
 ⟨h.low.setCell (p := ⟨D, 2, none⟩) (by have := h.hD; show w.heap.size ≤ D; omega) v, by rw [heap_set_ne (by have := h.hD; omega)]; exact h.bu, by rw [heap_set_ne (by have := h.hD; omega)]; exact h.br, heap_setCell_block h.bd 2 v, h.hD⟩
theorem FlM.put3 (h : FlM w wr uc D d0 d1 d2 d3) (v : Value) : FlM w (wr.setCell ⟨D, 3, none⟩ v) uc D d0 d1 d2 v :=
 ⟨h.low.setCell (p := ⟨D, 3, none⟩) (by have := h.hD; show w.heap.size ≤ D; omega) v, by rw [heap_set_ne (by have := h.hD; omega)]; exact h.bu, by rw [heap_set_ne (by have := h.hD; omega)]; exact h.br, heap_setCell_block h.bd 3 v, h.hD⟩
theorem FlM.set (h : FlM w wr uc D d0 d1 d2 d3) {g i : Nat} (h1 : w.heap.size + 2 ≤ g) (h2 : g < D) (v : Value) : FlM w (wr.setCell ⟨g, i, none⟩ v) uc D d0 d1 d2 d3 := by
 refine ⟨h.low.setCell (p := ⟨g, i, none⟩) (by show w.heap.size ≤ g; omega) v, ?_, ?_, ?_, h.hD⟩
 ·rw [heap_set_ne (by omega)]; exact h.bu
 ·rw [heap_set_ne (by omega)]; exact h.br
 ·rw [heap_set_ne (by omega)]; exact h.bd
end
theorem flush_end {w wr : World} {uc : Array Value} {D : Nat} {v0 v1 v2 v3 : Value} {rv bv : List Value} {c : Cf} (m : FlM w wr uc D v0 v1 v2 v3) (o : OwnC (w.heap.size + 2) wr v0 v1 v2 v3 rv bv c) :
  OwnC w.heap.size ((((wr.setCell ⟨w.heap.size + 1, 0, none⟩ v0).setCell ⟨w.heap.size + 1, 1, none⟩ v1).setCell ⟨w.heap.size + 1, 2, none⟩ v2).setCell ⟨w.heap.size + 1, 3, none⟩ v3) v0 v1 v2 v3 rv bv c ∧
  Below w.heap.size w ((((wr.setCell ⟨w.heap.size + 1, 0, none⟩ v0).setCell ⟨w.heap.size + 1, 1, none⟩ v1).setCell ⟨w.heap.size + 1, 2, none⟩ v2).setCell ⟨w.heap.size + 1, 3, none⟩ v3) ∧
  ((((wr.setCell ⟨w.heap.size + 1, 0, none⟩ v0).setCell ⟨w.heap.size + 1, 1, none⟩ v1).setCell ⟨w.heap.size + 1, 2, none⟩ v2).setCell ⟨w.heap.size + 1, 3, none⟩ v3).cell? ⟨w.heap.size + 1, 0, none⟩ = some v0 ∧
  ((((wr.setCell ⟨w.heap.size + 1, 0, none⟩ v0).setCell ⟨w.heap.size + 1, 1, none⟩ v1).setCell ⟨w.heap.size + 1, 2, none⟩ v2).setCell ⟨w.heap.size + 1, 3, none⟩ v3).cell? ⟨w.heap.size + 1, 1, none⟩ = some v1 ∧
  ((((wr.setCell ⟨w.heap.size + 1, 0, none⟩ v0).setCell ⟨w.heap.size + 1, 1, none⟩ v1).setCell ⟨w.heap.size + 1, 2, none⟩ v2).setCell ⟨w.heap.size + 1, 3, none⟩ v3).cell? ⟨w.heap.size + 1, 2, none⟩ = some v2 ∧
  ((((wr.setCell ⟨w.heap.size + 1, 0, none⟩ v0).setCell ⟨w.heap.size + 1, 1, none⟩ v1).setCell ⟨w.heap.size + 1, 2, none⟩ v2).setCell ⟨w.heap.size + 1, 3, none⟩ v3).cell? ⟨w.heap.size + 1, 3, none⟩ = some v3 := by
 have hB : w.heap.size + 1 < w.heap.size + 2 := by omega
 have hW : w.heap.size ≤ w.heap.size + 1 := by omega
 have OF := ((((o.setlow (i := 0) hB v0).setlow (i := 1) hB v1).setlow (i := 2) hB v2).setlow (i := 3) hB v3).low (show w.heap.size ≤ w.heap.size + 2 by omega)
 have kb := heap_setCell_block (i := 3) (v := v3) (heap_setCell_block (i := 2) (v := v2) (heap_setCell_block (i := 1) (v := v1) (heap_setCell_block (i := 0) (v := v0) m.br)))
 have BF := (((m.low.setCell (p := ⟨w.heap.size + 1, 0, none⟩) hW v0).setCell (p := ⟨w.heap.size + 1, 1, none⟩) hW v1).setCell (p := ⟨w.heap.size + 1, 2, none⟩) hW v2).setCell (p := ⟨w.heap.size + 1, 3, none⟩) hW v3
 exact ⟨OF, BF, cell_of_block kb 0 v0 rfl, cell_of_block kb 1 v1 rfl, cell_of_block kb 2 v2 rfl, cell_of_block kb 3 v3 rfl⟩
set_option maxRecDepth 100000 in
set_option maxHeartbeats 64000000 in
theorem flush_ok (cv : Value) (c : Cf) (model loc : Int) (t : Nat) (w : World) (hc : CfV w cv c) (hl : CfL' c) (ht : t < c.buf.length) (hml : model = 2 ∧ loc = -1 ∨ model = 3) (hf : flushC c model t loc = true) (hm : 0 ≤ (popE (c.buf.getD t []) model loc).2.1.1 ∧ (popE (c.buf.getD t []) model loc).2.1.1 < (c.mem.length : Int)) :
  Calls Try.prog 70 #[cv, .int .i64 model, .int .i64 (t : Nat), .int .i64 loc] w fun r w' => ∃ vp vr vm vb rv bv, r = .returned (.tuple #[.agg #[vp, vr, vm, vb], .bool true]) ∧ OwnC w.heap.size w' vp vr vm vb rv bv (flushD c model t loc) ∧ Below w.heap.size w w' := by
 have HCP := Lib.hid (fun (w' : World) (hb : Below w.heap.size w w') => copy_ok cv c w' (hc.below hb) hl)
 have HFL := Lib.hid (fun (w' : World) (hb : Below w.heap.size w w') => (by have := flushes_ok cv c model loc t w' (hc.below hb) ht (hl.bufs t ht) hml; rwa [hf] at this : Calls Try.prog 41 #[cv, .int .i64 model, .int .i64 (t : Nat), .int .i64 loc] w' fun r w2 => r = .returned (.bool true) ∧ Below w'.heap.size w' w2))
 obtain ⟨pa, pc, ra, rc, ma, mc, ba, bc, rfl, h1, h2, h3, h4⟩ := hc.var
 obtain ⟨a4, c4, e4, h4⟩ := h4
 cases e4
 obtain ⟨b4, o4, u4, rfl, x4, hen4⟩ := h4 t ht
 have hbl := hl.bufs t ht
 have HPO : Hid (∀ w' : World, Below w.heap.size w w' → Calls Try.prog 67 #[u4, .int .i64 model, .int .i64 loc] w' fun r w2 => ∃ na nl nc, r = .returned (.tuple #[.slice na nl nc, .agg #[.int .i64 (popE (c.buf.getD t []) model loc).2.1.1, .int .i64 (popE (c.buf.getD t []) model loc).2.1.2], .bool (popE (c.buf.getD t []) model loc).2.2]) ∧ OwnE w'.heap.size w2 (.slice na nl nc) (popE (c.buf.getD t []) model loc).1 ∧ Below w'.heap.size w' w2) := Lib.hid (fun w' hb => by
  rcases hml with ⟨rfl, rfl⟩ | rfl
  ·refine (pop2_ok u4 _ w' (hen4.below hb) hbl).mono ?_
   rintro r w2 ⟨rv, rfl, h1, h2⟩
   obtain ⟨na, nc, rfl⟩ := ownv h1
   exact ⟨na, _, nc, rfl, h1, h2⟩
  ·refine (pop3_ok u4 _ loc w' (hen4.below hb) hbl).mono ?_
   rintro r w2 ⟨rv, rfl, h1, h2⟩
   obtain ⟨na, nc, rfl⟩ := ownv h1
   exact ⟨na, _, nc, rfl, h1, h2⟩)
 unfold flushC at hf
 unfold flushD
 generalize popE (c.buf.getD t []) model loc = P at *
 obtain ⟨row, ⟨e1, en⟩, okk⟩ := P
 dsimp only at hf hm HPO ⊢
 subst hf
 obtain ⟨lo, rfl⟩ : ∃ lo : Nat, e1 = (lo : Int) := ⟨e1.toNat, by omega⟩
 rw [Int.toNat_natCast]
 have hlo : lo < c.mem.length := by omega
 have z1 : (t : Int) < (c.buf.length : Int) := by omega
 have z2 : (lo : Int) < (c.mem.length : Int) := by omega
 have S0 := Lib.hid (Bx2.start w #[.slice pa c.pc.length pc, .slice ra c.regs.length rc, .slice ma c.mem.length mc, .slice (some ⟨b4, o4, none⟩) c.buf.length bc] 52 #[.slice none 0 0, .slice none 0 0, .slice none 0 0, .slice none 0 0] 52)
 clear hc hl hml hm h1 h2 h3 h4 hen4 hbl
 go_enter Try.func70, Try.ntmps70
 go_wp2_with (first
  | (go_at_call 67; refine (HPO.out _ C5.out.low).mono ?_; rintro e1 w6 ⟨na, nl, nc, rfl, hnv, hb6⟩; have C7 := Lib.hid ((C5.out.more hb6).more (balloc w6 (.cells #[.int .i64 (lo : Nat), .int .i64 en] 103))); have O7 := Lib.hid ((O5.out.more hb6).more (balloc w6 (.cells #[.int .i64 (lo : Nat), .int .i64 en] 103))); have E7 := Lib.hid (heap_alloc_new w6 (.cells #[.int .i64 (lo : Nat), .int .i64 en] 103)); have N7 := Lib.hid (OwnE.more hnv (balloc w6 (.cells #[.int .i64 (lo : Nat), .int .i64 en] 103))); have HD5 := Lib.hid C5.out.size; have HS6 := Lib.hid hb6.size; have HB7 := Lib.hid (O7.out.setBuf ht (N := D) LT.out (ownlow N7.out (by have := HD5.out; have := C5.out.hD; omega)) (fun q e => by have h1 := (World.ownsRow.lt N7.out q e).1; have h2 := HD5.out; omega)); have O8 := Lib.hid HB7.out.1; have f7 := HB7.out.2; have c7 := World.ownsRow.cellAt O7.out.buf.out t (by omega); rw [List.getElem?_eq_getElem (by have := O7.out.buf.len; omega)] at c7; have hgb := Lib.hid (And.intro (World.ownsRow.lt O7.out.buf.out gb rfl).1 (LT.out (.slice (some ⟨gb, 0, none⟩) c.buf.length kb) (by simp) gb rfl)); have hgm := Lib.hid (And.intro (World.ownsRow.lt O7.out.mem gm rfl).1 (LT.out (.slice (some ⟨gm, 0, none⟩) c.mem.length km) (by simp) gm rfl)); have C8 := Lib.hid (C7.out.set (i := t) hgb.out.1 hgb.out.2 (.slice na nl nc)); have HM8 := Lib.hid (OwnC.setMem (c := { c with buf := c.buf.set t row }) O8.out (t := lo) hlo en); have O9 := Lib.hid HM8.out.1; have f8 := HM8.out.2; have c8 : ((w6.alloc (.cells #[.int .i64 (lo : Nat), .int .i64 en] 103)).setCell ⟨gb, t, none⟩ (.slice na nl nc)).cell? ⟨gm, lo, none⟩ = some (.int .i64 (c.mem.getD lo 0)) := O8.out.mem.cell hlo; have C9 := Lib.hid (C8.out.set (i := lo) hgm.out.1 hgm.out.2 (.int .i64 en)); clear C5 O5 hb6 hnv HB7 HM8 LT; have d3 := cell_of_block C7.out.bd 3 (.slice (some ⟨gb, 0, none⟩) c.buf.length kb) rfl; have d2 := cell_of_block C8.out.bd 2 (.slice (some ⟨gm, 0, none⟩) c.mem.length km) rfl; have E8 : Hid (((w6.alloc (.cells #[.int .i64 (lo : Nat), .int .i64 en] 103)).setCell ⟨gb, t, none⟩ (.slice na nl nc)).heap[w6.heap.size]? = some (.cells #[.int .i64 (lo : Nat), .int .i64 en] 103 (0, 0))) := Lib.hid (by rw [heap_set_ne (by have h1 := hgb.out.2; have h2 := HD5.out; have h3 := HS6.out; omega)]; exact E7.out); have e0 := cell_of_block E8.out 0 (.int .i64 (lo : Nat)) rfl; have e1 := cell_of_block E8.out 1 (.int .i64 en) rfl; have k0 := cell_of_block C9.out.bd 0 (.slice dpa c.pc.length kp) rfl; have k1 := cell_of_block C9.out.bd 1 (.slice dra c.regs.length kr) rfl; have k2 := cell_of_block C9.out.bd 2 (.slice (some ⟨gm, 0, none⟩) c.mem.length km) rfl; have k3 := cell_of_block C9.out.bd 3 (.slice (some ⟨gb, 0, none⟩) c.buf.length kb) rfl; have r0 := cell_of_block C9.out.br 0 (.slice none 0 0) rfl; have r1 := cell_of_block C9.out.br 1 (.slice none 0 0) rfl; have r2 := cell_of_block C9.out.br 2 (.slice none 0 0) rfl; have r3 := cell_of_block C9.out.br 3 (.slice none 0 0) rfl; have g0 := free_of_block C9.out.br 0; have g1 := free_of_block C9.out.br 1; have g2 := free_of_block C9.out.br 2; have g3 := free_of_block C9.out.br 3)
  | (go_at_call 41; refine (HFL.out _ C4.out.low).mono ?_; rintro e1 w5 ⟨rfl, hb5⟩; have C5 := Lib.hid (C4.out.more hb5); have O5 := Lib.hid (O4.out.more hb5); clear C4 O4 hb5; generalize w3.heap.size = D at *; have l3 := cell_of_block C5.out.bu 3 (.slice (some ⟨b4, o4, none⟩) c.buf.length bc) rfl; have x4 := bkeep C5.out.low x4)
  | (go_at_call 68; refine (HCP.out _ S0.out.below).mono ?_; rintro e1 w3 ⟨vp, vr, vm, vb, rv, bv, rfl, hoc, hb3⟩; obtain ⟨dpa, kp, rfl⟩ := ownv hoc.pc; obtain ⟨dra, kr, rfl⟩ := ownv hoc.regs.out; obtain ⟨gm, km, rfl, -, -⟩ := OwnI.form hoc.mem (by omega); obtain ⟨gb, kb, rfl, -, -⟩ := World.ownsRow.form hoc.buf.out (by omega); have LT := Lib.hid hoc.lts; have S3 := Lib.hid (S0.out.more hb3); have hs3 := hb3.size; have C4 : Hid (FlM w (w3.alloc (.cells #[.slice dpa c.pc.length kp, .slice dra c.regs.length kr, .slice (some ⟨gm, 0, none⟩) c.mem.length km, .slice (some ⟨gb, 0, none⟩) c.buf.length kb] 52)) #[.slice pa c.pc.length pc, .slice ra c.regs.length rc, .slice ma c.mem.length mc, .slice (some ⟨b4, o4, none⟩) c.buf.length bc] w3.heap.size (.slice dpa c.pc.length kp) (.slice dra c.regs.length kr) (.slice (some ⟨gm, 0, none⟩) c.mem.length km) (.slice (some ⟨gb, 0, none⟩) c.buf.length kb)) := Lib.hid ⟨S3.out.below.trans ((balloc w3 _).mono S3.out.below.size), bheap (balloc w3 _) S3.out.blk1, bheap (balloc w3 _) S3.out.blk2, heap_alloc_new w3 _, by simp only [alloc_size] at hs3; omega⟩; have O4 := Lib.hid ((hoc.low (base' := w.heap.size + 2) (by simp only [alloc_size]; omega)).more (balloc w3 (.cells #[.slice dpa c.pc.length kp, .slice dra c.regs.length kr, .slice (some ⟨gm, 0, none⟩) c.mem.length km, .slice (some ⟨gb, 0, none⟩) c.buf.length kb] 52))); clear hoc hb3 S0 S3 HCP hs3; have l0 := cell_of_block C4.out.bu 0 (.slice pa c.pc.length pc) rfl; have l1 := cell_of_block C4.out.bu 1 (.slice ra c.regs.length rc) rfl; have l2 := cell_of_block C4.out.bu 2 (.slice ma c.mem.length mc) rfl; have l3 := cell_of_block C4.out.bu 3 (.slice (some ⟨b4, o4, none⟩) c.buf.length bc) rfl))
 obtain ⟨OF, BF, y0, y1, y2, y3⟩ := flush_end C9.out O9.out
 refine bodyPost_ret (v := .tuple #[.agg #[.slice dpa c.pc.length kp, .slice dra c.regs.length kr, .slice (some ⟨gm, 0, none⟩) c.mem.length km, .slice (some ⟨gb, 0, none⟩) c.buf.length kb], .bool true]) (by simp [results, Try.results70, go_sem, y0, y1, y2, y3]) rfl ?_
 first
  | exact ⟨_, _, _, _, rfl, ⟨_, _, OF⟩, BF⟩
  | exact ⟨_, _, _, _, _, _, rfl, OF, BF⟩
end Go.Proofs.Ytlhpjfnfemebdaa
namespace Go.Proofs.Ytlhpjfnfemebdaa
open Go.RowKit
theorem cntLt_all {l : List Ed} {n : Nat} (h : ∀ e ∈ l, e.1 < (n : Int)) : cntLt l n = l.length := by
 unfold cntLt
 rw [List.filter_eq_self.2]
 intro e he; simpa using h e he
theorem cntLt_mono (l : List Ed) {i j : Nat} (h : i ≤ j) : cntLt l i ≤ cntLt l j := by
 induction j with
 | zero => obtain rfl : i = 0 := by omega
           exact Nat.le_refl _
 | succ j ih =>
  by_cases hij : i = j + 1
  ·rw [hij]; exact Nat.le_refl _
  ·rw [cntLt_succ]; have := ih (by omega); omega
theorem flat_get {l : List Ed} (h0 : ∀ e ∈ l, 0 ≤ e.1) (h : Ed → Int) : ∀ n i r, i < n → r < cnt l i → (flat n l h).getD (cntLt l i + r) 0 = h ((outs l i).getD r (0, 0, 0))
 | 0, i, r, hi, _ => by omega
 | n + 1, i, r, hi, hr => by
  rw [flat_succ]
  have hl := flat_len h0 h n
  by_cases hin : i = n
  ·subst hin
   have hr' : r < (outs l i).length := hr
   simp only [List.getD]
   rw [List.getElem?_append_right (by omega), hl]
   simp [hr']
  ·have hlt : cntLt l i + r < cntLt l n := by
    have := cntLt_mono l (show i + 1 ≤ n by omega)
    rw [cntLt_succ] at this; omega
   have := flat_get h0 h n i r (by omega) hr
   simp only [List.getD] at this ⊢
   rw [List.getElem?_append_left (by omega)]; exact this
theorem csr_S_len (n : Nat) (l : List Ed) : (csr n l).S.length = n + 1 := tab_len _ _
theorem csr_lenT {n : Nat} {l : List Ed} (h : buildOk n l = true) : (csr n l).T.length = l.length ∧ (csr n l).A.length = l.length := by
 obtain ⟨-, hm⟩ := buildOk_mem h
 have h0 : ∀ e ∈ l, 0 ≤ e.1 := fun e he => (hm e he).1
 have h1 : ∀ e ∈ l, e.1 < (n : Int) := fun e he => (hm e he).2.1
 exact ⟨by show (flat n l _).length = _; rw [flat_len h0, cntLt_all h1], by show (flat n l _).length = _; rw [flat_len h0, cntLt_all h1]⟩
theorem csr_S {n : Nat} (l : List Ed) {i : Nat} (hi : i ≤ n) : (csr n l).S.getD i 0 = (cntLt l i : Int) := tab_get _ _ _ _ (by omega)
theorem csr_st {n : Nat} (l : List Ed) {i : Nat} (hi : i ≤ n) : st (csr n l) i = cntLt l i := by unfold st; rw [csr_S l hi]; simp
theorem flat_mem {n : Nat} {l : List Ed} {p : Ed → Int} {x : Int} (h : x ∈ flat n l p) : ∃ e ∈ l, p e = x := by
 simp only [flat, List.mem_flatMap, List.mem_map, outs, List.mem_filter] at h
 obtain ⟨i, -, e, ⟨he, -⟩, rfl⟩ := h
 exact ⟨e, he, rfl⟩
theorem csr_right {n : Nat} {l : List Ed} (h : buildOk n l = true) : Rt (csr n l) := by
 obtain ⟨-, hm⟩ := buildOk_mem h
 have h0 : ∀ e ∈ l, 0 ≤ e.1 := fun e he => (hm e he).1
 have h1 : ∀ e ∈ l, e.1 < (n : Int) := fun e he => (hm e he).2.1
 obtain ⟨hT, hA⟩ := csr_lenT h
 have hS := csr_S_len n l
 refine ⟨by omega, ?_, ?_, by omega, ?_, ?_⟩
 ·rw [csr_S l (by omega), cntLt_zero h0]; rfl
 ·rw [hS, csr_S l (by omega), hT]
  have : n + 1 - 1 = n := by omega
  rw [this, cntLt_all h1]
 ·intro i hi
  rw [csr_S l (by omega), csr_S l (by omega)]
  have := cntLt_mono l (show i ≤ i + 1 by omega)
  omega
 ·intro k hk
  obtain ⟨e, he, h2⟩ := flat_mem (getD_mem hk)
  obtain ⟨e', he', h3⟩ := flat_mem (getD_mem (show k < (csr n l).A.length by omega))
  have a := hm e he
  have b := hm e' he'
  have e1 : (csr n l).T.getD k 0 = e.2.2 := h2.symm
  have e2 : (csr n l).A.getD k 0 = e'.2.1 := h3.symm
  rw [e1, e2, hS]; omega
theorem eds_csr {n : Nat} {l : List Ed} (h : buildOk n l = true) {i : Nat} (hi : i < n) : eds (csr n l) i = outs l i := by
 obtain ⟨-, hm⟩ := buildOk_mem h
 have h0 : ∀ e ∈ l, 0 ≤ e.1 := fun e he => (hm e he).1
 unfold eds edsN
 rw [csr_st l (show i + 1 ≤ n by omega), csr_st l (show i ≤ n by omega), cntLt_succ]
 have hc : cntLt l i + cnt l i - cntLt l i = cnt l i := by omega
 rw [hc]
 apply List.ext_getElem?
 intro r
 rw [List.getElem?_map]
 by_cases hr : r < cnt l i
 ·rw [List.getElem?_range' hr]
  have hr' : r < (outs l i).length := hr
  have e : cntLt l i + 1 * r = cntLt l i + r := by omega
  have hA := flat_get h0 (fun e => e.2.1) n i r hi hr
  have hT := flat_get h0 (fun e => e.2.2) n i r hi hr
  have hx : (outs l i)[r] ∈ outs l i := List.getElem_mem hr'
  have hx1 : (outs l i)[r].1 = (i : Int) := by
   have := (List.mem_filter.1 hx).2
   simpa using this
  rw [e, List.getElem?_eq_getElem hr', Option.map_some]
  congr 1
  have hg : (outs l i).getD r (0, 0, 0) = (outs l i)[r] := by simp [List.getD, hr']
  rw [hg] at hA hT
  unfold edge
  show ((i : Int), (flat n l _).getD _ 0, (flat n l _).getD _ 0) = _
  rw [hA, hT, ← hx1]
 ·rw [List.getElem?_eq_none (by simp; omega), List.getElem?_eq_none (show (outs l i).length ≤ r from by unfold cnt at hr; omega)]; rfl
theorem allL_csr {n : Nat} {l : List Ed} (h : buildOk n l = true) : allL (csr n l) = (List.range n).flatMap (outs l) := by
 rw [allL_right (csr_right h), span_flat, csr_S_len]
 have : n + 1 - 1 = n := by omega
 rw [this]
 have hc : ∀ m, m ≤ n → (List.range m).flatMap (eds (csr n l)) = (List.range m).flatMap (outs l) := by
  intro m
  induction m with
  | zero => intro _; rfl
  | succ m ih => intro hm; rw [List.range_succ, List.flatMap_append, List.flatMap_append, ih (by omega)]; simp [eds_csr h (show m < n by omega)]
 exact hc n (Nat.le_refl _)
theorem mem_all_csr {n : Nat} {l : List Ed} (h : buildOk n l = true) (e : Ed) : e ∈ allL (csr n l) ↔ e ∈ l := by
 obtain ⟨-, hm⟩ := buildOk_mem h
 rw [allL_csr h]
 simp only [List.mem_flatMap, List.mem_range, outs, List.mem_filter, decide_eq_true_eq]
 constructor
 ·rintro ⟨i, -, he, -⟩; exact he
 ·intro he
  have := hm e he
  exact ⟨e.1.toNat, by omega, he, by omega⟩
theorem countP_sort (p : Ed → Bool) (l : List Ed) (h0 : ∀ e ∈ l, 0 ≤ e.1) : ∀ n : Nat, ((List.range n).flatMap (outs l)).countP p = l.countP (fun e => p e && decide (e.1 < (n : Int)))
 | 0 => by
  have e0 : l.countP (fun e => p e && decide (e.1 < ((0 : Nat) : Int))) = 0 := List.countP_eq_zero.2 (fun e he => by have := h0 e he; simp; omega)
  rw [e0]; rfl
 | n + 1 => by
  rw [List.range_succ, List.flatMap_append, List.countP_append, countP_sort p l h0 n]
  simp only [List.flatMap_cons, List.flatMap_nil, List.append_nil, outs, List.countP_filter]
  clear h0
  induction l with
  | nil => rfl
  | cons e l ih =>
   simp only [List.countP_cons]
   by_cases hp : p e = true
   ·by_cases h1 : e.1 < (n : Int)
    ·have h2 : e.1 < ((n + 1 : Nat) : Int) := by omega
     have h3 : ¬ e.1 = (n : Int) := by omega
     simp only [hp, h1, h2, h3, decide_true, decide_false, Bool.and_self, Bool.and_false, if_true, Bool.false_eq_true, if_false]; omega
    ·by_cases h3 : e.1 = (n : Int)
     ·have h2 : e.1 < ((n + 1 : Nat) : Int) := by omega
      simp only [hp, h3, decide_true, Bool.true_and]
      have h4 : ¬ ((n : Int) < (n : Int)) := by omega
      have h5 : ((n : Int) < ((n + 1 : Nat) : Int)) := by omega
      simp only [h4, h5, decide_true, decide_false, Bool.false_eq_true, if_false, if_true]; omega
     ·have h2 : ¬ e.1 < ((n + 1 : Nat) : Int) := by omega
      simp only [hp, h1, h2, h3, decide_false, Bool.and_false, Bool.false_eq_true, if_false]; omega
   ·have hp' : p e = false := by simpa using hp
    simp only [hp', Bool.false_and, Bool.false_eq_true, if_false]; omega
theorem countP_all_csr (p : Ed → Bool) {n : Nat} {l : List Ed} (h : buildOk n l = true) : (allL (csr n l)).countP p = l.countP p := by
 obtain ⟨-, hm⟩ := buildOk_mem h
 rw [allL_csr h, countP_sort p l (fun e he => (hm e he).1)]
 apply List.countP_congr
 intro e he
 have := hm e he
 simp; omega
end Go.Proofs.Ytlhpjfnfemebdaa
namespace Go.Proofs.Ytlhpjfnfemebdaa
def cnStep (E : Nat → Nat → Bool) (i : Nat) (s : List Nat × Nat) : List Nat × Nat :=
 match (List.range i).find? (fun k => E i k) with
 | some k => (s.1 ++ [s.1.getD k 0], s.2)
 | none => (s.1 ++ [s.2], s.2 + 1)
def cnS (E : Nat → Nat → Bool) : Nat → List Nat × Nat
 | 0 => ([], 0)
 | i + 1 => cnStep E i (cnS E i)
theorem find_congr {α : Type} {p q : α → Bool} : ∀ l : List α, (∀ x ∈ l, p x = q x) → l.find? p = l.find? q
 | [], _ => rfl
 | x :: l, h => by
  rw [List.find?_cons, List.find?_cons, h x (by simp), find_congr l (fun y hy => h y (by simp [hy]))]
theorem cnS_congr {E E' : Nat → Nat → Bool} : ∀ n, (∀ i k, i < n → k < i → E i k = E' i k) → cnS E n = cnS E' n
 | 0, _ => rfl
 | n + 1, h => by
  show cnStep E n (cnS E n) = cnStep E' n (cnS E' n)
  rw [cnS_congr n (fun i k hi hk => h i k (by omega) hk)]
  unfold cnStep
  rw [find_congr (List.range n) (fun k hk => h n k (by omega) (List.mem_range.1 hk))]
theorem cnS_len (E : Nat → Nat → Bool) : ∀ n, (cnS E n).1.length = n
 | 0 => rfl
 | n + 1 => by
  show (cnStep E n (cnS E n)).1.length = _
  unfold cnStep
  split <;> simp [cnS_len E n]
def cnV (E : Nat → Nat → Bool) (i : Nat) : Nat := (cnS E (i + 1)).1.getD i 0
theorem cnS_getD (E : Nat → Nat → Bool) : ∀ n k, k < n → (cnS E n).1.getD k 0 = cnV E k
 | 0, k, h => by omega
 | n + 1, k, h => by
  by_cases e : k = n
  ·rw [e]; rfl
  ·have hk : k < n := by omega
   rw [← cnS_getD E n k hk]
   show (cnStep E n (cnS E n)).1.getD k 0 = _
   have hl := cnS_len E n
   have : ∀ x, ((cnS E n).1 ++ [x]).getD k 0 = (cnS E n).1.getD k 0 := fun x => by
    simp only [List.getD_eq_getElem?_getD]
    rw [List.getElem?_append_left (by omega)]
   unfold cnStep
   split <;> exact this _
theorem cnV_some {E : Nat → Nat → Bool} {i k : Nat} (h : (List.range i).find? (fun k => E i k) = some k) : cnV E i = cnV E k := by
 have hk : k < i := List.mem_range.1 (List.mem_of_find?_eq_some h)
 show (cnStep E i (cnS E i)).1.getD i 0 = _
 unfold cnStep
 rw [h]
 have hl := cnS_len E i
 simp only [List.getD_eq_getElem?_getD]
 rw [List.getElem?_append_right (by omega), hl]
 simp
 rw [← List.getD_eq_getElem?_getD]
 exact cnS_getD E i k hk
theorem cnV_none {E : Nat → Nat → Bool} {i : Nat} (h : (List.range i).find? (fun k => E i k) = none) : cnV E i = (cnS E i).2 := by
 show (cnStep E i (cnS E i)).1.getD i 0 = _
 unfold cnStep
 rw [h]
 have hl := cnS_len E i
 simp only [List.getD_eq_getElem?_getD]
 rw [List.getElem?_append_right (by omega), hl]
 simp
theorem cnS_next_some {E : Nat → Nat → Bool} {i k : Nat} (h : (List.range i).find? (fun k => E i k) = some k) : (cnS E (i + 1)).2 = (cnS E i).2 := by
 show (cnStep E i (cnS E i)).2 = _
 unfold cnStep; rw [h]
theorem cnS_next_none {E : Nat → Nat → Bool} {i : Nat} (h : (List.range i).find? (fun k => E i k) = none) : (cnS E (i + 1)).2 = (cnS E i).2 + 1 := by
 show (cnStep E i (cnS E i)).2 = _
 unfold cnStep; rw [h]
theorem cnV_lt (E : Nat → Nat → Bool) : ∀ n i, i < n → cnV E i < (cnS E n).2
 | 0, _, h => by omega
 | n + 1, i, h => by
  rcases e : (List.range n).find? (fun k => E n k) with _ | k
  ·rw [cnS_next_none e]
   by_cases q : i = n
   ·rw [q, cnV_none e]; omega
   ·have := cnV_lt E n i (by omega); omega
  ·rw [cnS_next_some e]
   by_cases q : i = n
   ·rw [q, cnV_some e]
    exact cnV_lt E n k (List.mem_range.1 (List.mem_of_find?_eq_some e))
   ·exact cnV_lt E n i (by omega)
theorem cnS_next_le (E : Nat → Nat → Bool) : ∀ n, (cnS E n).2 ≤ n
 | 0 => Nat.le_refl _
 | n + 1 => by
  rcases e : (List.range n).find? (fun k => E n k) with _ | k
  ·rw [cnS_next_none e]; have := cnS_next_le E n; omega
  ·rw [cnS_next_some e]; have := cnS_next_le E n; omega
def eqB {α : Type} [DecidableEq α] (f : Nat → α) (i k : Nat) : Bool := decide (f i = f k)
section
variable {α : Type} [DecidableEq α] {f : Nat → α}
theorem eqB_none {i : Nat} : (List.range i).find? (fun k => eqB f i k) = none ↔ ∀ k, k < i → f i ≠ f k := by
 simp [eqB, List.find?_eq_none]
theorem eqB_some {i k : Nat} (h : (List.range i).find? (fun k => eqB f i k) = some k) : k < i ∧ f i = f k :=
 ⟨List.mem_range.1 (List.mem_of_find?_eq_some h), by have := List.find?_some h; simpa [eqB] using this⟩
theorem cnV_eq : ∀ n i k, i < n → k < n → (cnV (eqB f) i = cnV (eqB f) k ↔ f i = f k)
 | 0, _, _, h, _ => by omega
 | n + 1, i, k, hi, hk => by
  have key : ∀ k, k < n → (cnV (eqB f) n = cnV (eqB f) k ↔ f n = f k) := fun k hk => by
   rcases e : (List.range n).find? (fun k => eqB f n k) with _ | j
   ·have h1 := cnV_lt (eqB f) n k hk
    rw [cnV_none e]
    constructor
    ·intro q; omega
    ·intro q; exact absurd q (eqB_none.1 e k hk)
   ·rw [cnV_some e, cnV_eq n j k (eqB_some e).1 hk, (eqB_some e).2]
  by_cases e1 : i = n
  ·by_cases e2 : k = n
   ·rw [e1, e2]; simp
   ·rw [e1]; exact key k (by omega)
  ·by_cases e2 : k = n
   ·rw [e2]
    have := key i (by omega)
    constructor
    ·intro q; exact (this.1 q.symm).symm
    ·intro q; exact (this.2 q.symm).symm
   ·exact cnV_eq n i k (by omega) (by omega)
theorem cnV_first {i k : Nat} (hi : ∀ j, j < i → f i ≠ f j) (hk : k < i) : cnV (eqB f) k < cnV (eqB f) i := by
 rw [cnV_none (eqB_none.2 hi)]
 exact cnV_lt _ i k hk
end
end Go.Proofs.Ytlhpjfnfemebdaa
namespace Go.Proofs.Ytlhpjfnfemebdaa
theorem sorted_ext : ∀ {l l' : List Nat}, l.Pairwise (· < ·) → l'.Pairwise (· < ·) → (∀ x, x ∈ l ↔ x ∈ l') → l = l'
 | [], [], _, _, _ => rfl
 | [], y :: l', _, _, h => by have := (h y).2 (by simp); cases this
 | x :: l, [], _, _, h => by have := (h x).1 (by simp); cases this
 | x :: l, y :: l', h1, h2, h => by
  have a1 := List.pairwise_cons.1 h1
  have a2 := List.pairwise_cons.1 h2
  have e : x = y := by
   have m1 := (h x).1 (by simp)
   have m2 := (h y).2 (by simp)
   rcases List.mem_cons.1 m1 with e | m1
   ·exact e
   ·rcases List.mem_cons.1 m2 with e | m2
    ·exact e.symm
    ·have := a1.1 y m2
     have := a2.1 x m1
     omega
  subst e
  congr 1
  refine sorted_ext a1.2 a2.2 fun z => ?_
  have hz := h z
  simp only [List.mem_cons] at hz
  constructor
  ·intro m
   rcases hz.1 (.inr m) with e | m'
   ·have := a1.1 z m; omega
   ·exact m'
  ·intro m
   rcases hz.2 (.inr m) with e | m'
   ·have := a2.1 z m; omega
   ·exact m'
section
variable {α : Type} [DecidableEq α]
def isF (q : Nat → α) (inn : Nat → Bool) (i : Nat) : Bool := inn i && (List.range i).all (fun k => !(inn k && decide (q k = q i)))
def firsts (q : Nat → α) (inn : Nat → Bool) (n : Nat) : List Nat := (List.range n).filter (isF q inn)
def rowOf (q : Nat → α) (inn : Nat → Bool) (n : Nat) (p : α) : List Nat := (List.range n).filter (fun k => inn k && decide (q k = p))
def grp (q : Nat → α) (inn : Nat → Bool) (n : Nat) : List (List Nat) := (firsts q inn n).map (fun j => rowOf q inn n (q j))
def place (q : Nat → α) (inn : Nat → Bool) (n : Nat) (p : α) : Option Nat := (firsts q inn n).findIdx? (fun j => decide (q j = p))
variable {q : Nat → α} {inn : Nat → Bool}
theorem isF_iff {i : Nat} : isF q inn i = true ↔ inn i = true ∧ ∀ k, k < i → inn k = true → q k ≠ q i := by
 simp only [isF, Bool.and_eq_true, List.all_eq_true, List.mem_range, Bool.not_eq_true', Bool.and_eq_false_iff, decide_eq_false_iff_not]
 constructor
 ·rintro ⟨h1, h2⟩
  refine ⟨h1, fun k hk hi => ?_⟩
  rcases h2 k hk with e | e
  ·rw [hi] at e; cases e
  ·exact e
 ·rintro ⟨h1, h2⟩
  refine ⟨h1, fun k hk => ?_⟩
  cases e : inn k
  ·exact .inl rfl
  ·exact .inr (h2 k hk e)
theorem firsts_succ (n : Nat) : firsts q inn (n + 1) = firsts q inn n ++ if isF q inn n then [n] else [] := by
 unfold firsts
 rw [List.range_succ, List.filter_append]
 congr 1
 simp only [List.filter_cons, List.filter_nil]
theorem rowOf_succ (n : Nat) (p : α) : rowOf q inn (n + 1) p = rowOf q inn n p ++ if inn n && decide (q n = p) then [n] else [] := by
 unfold rowOf
 rw [List.range_succ, List.filter_append]
 congr 1
 simp only [List.filter_cons, List.filter_nil]
theorem mem_firsts {n i : Nat} : i ∈ firsts q inn n ↔ i < n ∧ isF q inn i = true := by
 simp [firsts]
theorem mem_rowOf {n i : Nat} {p : α} : i ∈ rowOf q inn n p ↔ i < n ∧ inn i = true ∧ q i = p := by
 simp [rowOf]
theorem has_first : ∀ (m n i : Nat), i < m → i < n → inn i = true → ∃ j, j ∈ firsts q inn n ∧ q j = q i ∧ j ≤ i
 | 0, _, _, h, _, _ => by omega
 | m + 1, n, i, hm, hn, hi => by
  by_cases hf : isF q inn i = true
  ·exact ⟨i, mem_firsts.2 ⟨hn, hf⟩, rfl, Nat.le_refl _⟩
  ·have : ∃ k, k < i ∧ inn k = true ∧ q k = q i := by
    refine Classical.byContradiction fun hne => hf (isF_iff.2 ⟨hi, fun k hk hik e => hne ⟨k, hk, hik, e⟩⟩)
   obtain ⟨k, hk, hik, e⟩ := this
   obtain ⟨j, h1, h2, h3⟩ := has_first m n k (by omega) (by omega) hik
   exact ⟨j, h1, by rw [h2, e], by omega⟩
theorem grp_out {n : Nat} (h : inn n = false) : grp q inn (n + 1) = grp q inn n ∧ ∀ p, place q inn (n + 1) p = place q inn n p := by
 have hf : isF q inn n = false := by simp [isF, h]
 have e : firsts q inn (n + 1) = firsts q inn n := by rw [firsts_succ, hf]; simp
 have e2 : ∀ p, rowOf q inn (n + 1) p = rowOf q inn n p := fun p => by rw [rowOf_succ, h]; simp
 constructor
 ·unfold grp
  rw [e]
  exact List.map_congr_left fun j _ => e2 _
 ·intro p; unfold place; rw [e]
theorem place_lt {n at' : Nat} {p : α} (h : place q inn n p = some at') : at' < (firsts q inn n).length ∧ ∃ j, (firsts q inn n)[at']? = some j ∧ q j = p := by
 unfold place at h
 rw [List.findIdx?_eq_some_iff_getElem] at h
 obtain ⟨hl, h1, -⟩ := h
 exact ⟨hl, _, List.getElem?_eq_getElem hl, by simpa using h1⟩
theorem grp_first {n : Nat} (h : inn n = true) (hp : place q inn n (q n) = none) :
  grp q inn (n + 1) = grp q inn n ++ [[n]] ∧ ∀ p, place q inn (n + 1) p = if p = q n then some (grp q inn n).length else place q inn n p := by
 have hno : ∀ k, k < n → inn k = true → q k ≠ q n := fun k hk hi e => by
  obtain ⟨j, h1, h2, -⟩ := has_first (q := q) (k + 1) n k (by omega) hk hi
  have := List.findIdx?_eq_none_iff.1 hp j h1
  rw [h2, e] at this
  simp at this
 have hf : isF q inn n = true := isF_iff.2 ⟨h, hno⟩
 have e : firsts q inn (n + 1) = firsts q inn n ++ [n] := by rw [firsts_succ, hf]; simp
 constructor
 ·unfold grp
  rw [e, List.map_append, List.map_singleton]
  congr 1
  ·refine List.map_congr_left fun j hj => ?_
   rw [rowOf_succ]
   have hj' := mem_firsts.1 hj
   have : q n ≠ q j := fun e => hno j hj'.1 (isF_iff.1 hj'.2).1 e.symm
   simp [this]
  ·rw [rowOf_succ]
   have : rowOf q inn n (q n) = [] := by
    refine List.eq_nil_iff_forall_not_mem.2 fun k hk => ?_
    obtain ⟨h1, h2, h3⟩ := mem_rowOf.1 hk
    exact hno k h1 h2 h3
   rw [this]; simp [h]
 ·intro p
  have hl : (grp q inn n).length = (firsts q inn n).length := by simp [grp]
  unfold place
  rw [e, List.findIdx?_append, hl]
  by_cases hpe : p = q n
  ·subst hpe
   rw [if_pos rfl]
   unfold place at hp
   rw [hp]
   simp [List.findIdx?_cons]
  ·rw [if_neg hpe]
   have : ¬ q n = p := fun e => hpe e.symm
   simp [List.findIdx?_cons, this]
theorem getElem?_inj_firsts {n a b : Nat} {j k : Nat} (h1 : (firsts q inn n)[a]? = some j) (h2 : (firsts q inn n)[b]? = some k) (e : q j = q k) : a = b := by
 have hs : (firsts q inn n).Pairwise (· < ·) := by unfold firsts; exact List.pairwise_lt_range.filter _
 have m1 := mem_firsts.1 (List.mem_of_getElem? h1)
 have m2 := mem_firsts.1 (List.mem_of_getElem? h2)
 have ejk : j = k := by
  rcases Nat.lt_trichotomy j k with h | h | h
  ·exact absurd e ((isF_iff.1 m2.2).2 j h (isF_iff.1 m1.2).1)
  ·exact h
  ·exact absurd e.symm ((isF_iff.1 m1.2).2 k h (isF_iff.1 m2.2).1)
 subst ejk
 obtain ⟨ha, ea⟩ := List.getElem?_eq_some_iff.1 h1
 obtain ⟨hb, eb⟩ := List.getElem?_eq_some_iff.1 h2
 have hp := List.pairwise_iff_getElem.1 hs
 rcases Nat.lt_trichotomy a b with h | h | h
 ·have := hp a b ha hb h; omega
 ·exact h
 ·have := hp b a hb ha h; omega
theorem grp_more {n at' : Nat} (h : inn n = true) (hp : place q inn n (q n) = some at') :
  grp q inn (n + 1) = (grp q inn n).modify at' (· ++ [n]) ∧ ∀ p, place q inn (n + 1) p = place q inn n p := by
 obtain ⟨hl, j, hj, hq⟩ := place_lt hp
 have hjm := mem_firsts.1 (List.mem_of_getElem? hj)
 have hf : isF q inn n = false := by
  cases e : isF q inn n
  ·rfl
  ·exact absurd hq ((isF_iff.1 e).2 j hjm.1 (isF_iff.1 hjm.2).1)
 have e : firsts q inn (n + 1) = firsts q inn n := by rw [firsts_succ, hf]; simp
 constructor
 ·refine List.ext_getElem? fun k => ?_
  unfold grp
  rw [List.getElem?_modify, List.getElem?_map, List.getElem?_map, e]
  rcases hk : (firsts q inn n)[k]? with _ | i
  ·simp
  ·simp only [Option.map_some]
   by_cases ek : at' = k
   ·subst ek
    rw [hj] at hk
    obtain rfl : j = i := by simpa using hk
    rw [rowOf_succ]
    simp [h, hq]
   ·have : q n ≠ q i := fun ee => ek (getElem?_inj_firsts hj hk (by rw [hq, ee]))
    rw [rowOf_succ]
    simp [this, ek]
 ·intro p; unfold place; rw [e]
end
theorem grp_ref {q : Nat → Nat} {inn : Nat → Bool} {n : Nat} (hlt : ∀ k, k < n → inn k = true → q k < n)
  (hm : ∀ i j, i < j → j < n → isF q inn i = true → isF q inn j = true → q i < q j) :
  grp q inn n = ((List.range n).map (fun p => rowOf q inn n p)).filter (fun l => !l.isEmpty) := by
 have hs : ((firsts q inn n).map q).Pairwise (· < ·) := by
  rw [List.pairwise_map]
  have h0 : (firsts q inn n).Pairwise (· < ·) := by unfold firsts; exact List.pairwise_lt_range.filter _
  refine List.Pairwise.imp_of_mem ?_ h0
  intro a b ha hb hab
  have h1 := mem_firsts.1 ha
  have h2 := mem_firsts.1 hb
  exact hm a b hab h2.1 h1.2 h2.2
 have e : (firsts q inn n).map q = (List.range n).filter (fun p => !(rowOf q inn n p).isEmpty) := by
  refine sorted_ext hs (List.pairwise_lt_range.filter _) fun x => ?_
  rw [List.mem_map, List.mem_filter, List.mem_range]
  constructor
  ·rintro ⟨j, hj, rfl⟩
   have h1 := mem_firsts.1 hj
   have h2 := (isF_iff.1 h1.2).1
   refine ⟨hlt j h1.1 h2, ?_⟩
   have : j ∈ rowOf q inn n (q j) := mem_rowOf.2 ⟨h1.1, h2, rfl⟩
   cases hr : rowOf q inn n (q j)
   ·rw [hr] at this; cases this
   ·rfl
  ·rintro ⟨hx, hr⟩
   rcases hrow : rowOf q inn n x with _ | ⟨k, l⟩
   ·rw [hrow] at hr; simp at hr
   ·have : k ∈ rowOf q inn n x := by rw [hrow]; simp
    obtain ⟨h1, h2, h3⟩ := mem_rowOf.1 this
    obtain ⟨j, a, b, -⟩ := has_first (q := q) (k + 1) n k (by omega) h1 h2
    exact ⟨j, a, by rw [b, h3]⟩
 rw [List.filter_map]
 show (firsts q inn n).map ((fun p => rowOf q inn n p) ∘ q) = _
 rw [← List.map_map, e]
 rfl
end Go.Proofs.Ytlhpjfnfemebdaa
namespace Go.Proofs.Ytlhpjfnfemebdaa
def Eg (g : Gr) (a b : Nat) : Prop := ∃ e ∈ allL g, e.1 = (a : Int) ∧ e.2.2 = (b : Int)
def SC (g : Gr) (i k : Nat) : Prop := Pth (Eg g) i k ∧ Pth (Eg g) k i
theorem SC.refl (g : Gr) (i : Nat) : SC g i i := ⟨.refl i, .refl i⟩
theorem SC.symm {g : Gr} {i k : Nat} (h : SC g i k) : SC g k i := ⟨h.2, h.1⟩
theorem SC.trans {g : Gr} {i k j : Nat} (h : SC g i k) (h2 : SC g k j) : SC g i j := ⟨h.1.trans h2.1, h2.2.trans h.2⟩
noncomputable def scF (g : Gr) (i : Nat) : Nat := leastN (fun k => SC g i k)
theorem scF_self (g : Gr) (i : Nat) : SC g i (scF g i) := (leastN_spec (p := fun k => SC g i k) ⟨i, SC.refl g i⟩).1
theorem scF_iff {g : Gr} {i k : Nat} : scF g i = scF g k ↔ SC g i k := by
 constructor
 ·intro h
  have a := scF_self g i
  have b := scF_self g k
  rw [h] at a
  exact a.trans b.symm
 ·intro h
  have e : (fun j => SC g i j) = (fun j => SC g k j) := by
   funext j
   exact propext ⟨fun q => h.symm.trans q, fun q => h.trans q⟩
  unfold scF
  rw [e]
noncomputable def partsL (g : Gr) : List Nat := (cnS (eqB (scF g)) (nodesN g)).1
noncomputable def partN (g : Gr) (i : Nat) : Nat := cnV (eqB (scF g)) i
theorem partsL_len (g : Gr) : (partsL g).length = nodesN g := cnS_len _ _
theorem partsL_get {g : Gr} {i : Nat} (h : i < nodesN g) : (partsL g).getD i 0 = partN g i := cnS_getD _ _ _ h
theorem partN_eq {g : Gr} {i k : Nat} : partN g i = partN g k ↔ SC g i k := by
 unfold partN
 rw [cnV_eq (max i k + 1) i k (by omega) (by omega)]
 exact scF_iff
theorem partN_lt {g : Gr} {i : Nat} (h : i < nodesN g) : partN g i < nodesN g := Nat.lt_of_lt_of_le (cnV_lt _ _ _ h) (cnS_next_le _ _)
theorem partsL_congr {g : Gr} {E : Nat → Nat → Bool} (h : ∀ i k, i < nodesN g → k < i → (E i k = true ↔ SC g i k)) : (cnS E (nodesN g)).1 = partsL g := by
 unfold partsL
 rw [cnS_congr (nodesN g) (fun i k hi hk => ?_)]
 have := h i k hi hk
 rw [← scF_iff] at this
 show E i k = decide (scF g i = scF g k)
 cases e : E i k
 ·simp only [e, Bool.false_eq_true, false_iff] at this
  simp [this]
 ·simp only [e, true_iff] at this
  simp [this]
theorem rch_pth {g : Gr} (h : Rt g) {n i : Nat} {j : Int} (hr : Rch (allL g) (Src n [(i : Int)]) j) : 0 ≤ j ∧ Pth (Eg g) i j.toNat := by
 induction hr with
 | base hb =>
  obtain ⟨h1, h2, -⟩ := hb
  obtain rfl : _ = (i : Int) := by simpa using h1
  exact ⟨h2, by simpa using Pth.refl i⟩
 | step _ he ih =>
  have hm := allL_mem h he
  exact ⟨by omega, .step ih.2 ⟨_, he, by omega, by omega⟩⟩
theorem pth_rch {g : Gr} {n i j : Nat} (hi : i < n) (hp : Pth (Eg g) i j) : Rch (allL g) (Src n [(i : Int)]) (j : Int) := by
 induction hp with
 | refl => exact .base ⟨by simp, by omega, by omega⟩
 | step _ he ih =>
  obtain ⟨e, he, h1, h2⟩ := he
  have := ih
  rw [← h1] at this
  rw [← h2]
  exact .step this he
theorem reach_pth {g : Gr} (h : Rt g) {i j : Nat} (hi : i < nodesN g) (hj : j < nodesN g) : (reachL g [(i : Int)]).getD j false = true ↔ Pth (Eg g) i j := by
 rw [reachL_get h _ hj]
 exact ⟨fun q => by simpa using (rch_pth h q).2, fun q => pth_rch hi q⟩
def tgOf (g : Gr) (h : Rt g) : TG where
 n := nodesN g
 S := st g
 T := fun k => (g.T.getD k 0).toNat
 hT := fun x k hx h1 h2 => by
  have hn := nodesN_right h
  have := h.stTop (i := x + 1) (by omega)
  have := h.tos k (by omega)
  omega
 hS := fun x hx => by
  have hn := nodesN_right h
  exact h.stLe (Nat.le_succ x) (by omega)
theorem mem_eds {g : Gr} {i : Nat} {e : Ed} : e ∈ eds g i ↔ ∃ k, st g i ≤ k ∧ k < st g (i + 1) ∧ edge g i k = e := by
 simp only [eds, edsN, List.mem_map, List.mem_range'_1]
 constructor
 ·rintro ⟨k, ⟨h1, h2⟩, h3⟩; exact ⟨k, h1, by omega, h3⟩
 ·rintro ⟨k, h1, h2, h3⟩; exact ⟨k, ⟨h1, by omega⟩, h3⟩
theorem mem_all {g : Gr} (h : Rt g) {e : Ed} : e ∈ allL g ↔ ∃ i, i < nodesN g ∧ e ∈ eds g i := by
 rw [allL_right h, span_flat, List.mem_flatMap, nodesN_right h]
 simp only [List.mem_range]
theorem tgOf_E {g : Gr} (h : Rt g) (x y : Nat) : (tgOf g h).E x y ↔ Eg g x y := by
 have hn := nodesN_right h
 constructor
 ·rintro ⟨hx, k, h1, h2, h3⟩
  have hx' : x < nodesN g := hx
  have ht := h.stTop (i := x + 1) (by omega)
  have h2' : k < st g (x + 1) := h2
  have := h.tos k (by omega)
  have h3' : (g.T.getD k 0).toNat = y := h3
  exact ⟨edge g x k, (mem_all h).2 ⟨x, hx, mem_eds.2 ⟨k, h1, h2, rfl⟩⟩, rfl, show g.T.getD k 0 = (y : Int) by omega⟩
 ·rintro ⟨e, he, h1, h2⟩
  obtain ⟨i, hi, he⟩ := (mem_all h).1 he
  obtain ⟨k, k1, k2, rfl⟩ := mem_eds.1 he
  have e1 : (i : Int) = (x : Int) := h1
  obtain rfl : i = x := by omega
  have h2' : g.T.getD k 0 = (y : Int) := h2
  exact ⟨hi, k, k1, k2, show (g.T.getD k 0).toNat = y by omega⟩
theorem tgOf_Efun {g : Gr} (h : Rt g) : (tgOf g h).E = Eg g := by
 funext x y
 exact propext (tgOf_E h x y)
theorem parts_end {g : Gr} (h : Rt g) {s : TS} {num0 : Nat → Int} (hI : RunInv (tgOf g h) num0 s) (hc : s.calls = []) (hs : ∀ x, x < nodesN g → 0 ≤ s.num x) :
  (cnS (eqB s.part) (nodesN g)).1 = partsL g := by
 refine partsL_congr fun i k hi hk => ?_
 have := hI.inv.partEq i k (hs i hi) (hI.off hc i) (hs k (by omega)) (hI.off hc k)
 rw [tgOf_Efun h] at this
 simpa [eqB, SC] using this
end Go.Proofs.Ytlhpjfnfemebdaa
namespace Go.Proofs.Ytlhpjfnfemebdaa
open Go.RowKit
theorem mints (n : Nat) : madeCells #[Value.int .i64 0] n = ints (tab n (fun _ => 0)) := by
 have : tab n (fun _ => (0 : Int)) = List.replicate n 0 := by unfold tab; simp [List.map_const']
 rw [this, ints_replicate, ← madeCells_one]
theorem mbools (n : Nat) : madeCells #[Value.bool false] n = bools (tab n (fun _ => false)) := by
 have : tab n (fun _ => false) = List.replicate n false := by unfold tab; simp [List.map_const']
 rw [this, bools_replicate, ← madeCells_one]
def ZI (wr : World) (n : Nat) (v : Value) (w' : World) : Prop := ∃ b, v = slV b n ∧ wr.heap.size ≤ b ∧ w'.heap[b]? = some (.cells (ints (tab n (fun _ => 0))) 3 (0, 0))
def ZB (wr : World) (n : Nat) (v : Value) (w' : World) : Prop := ∃ b, v = slV b n ∧ wr.heap.size ≤ b ∧ w'.heap[b]? = some (.cells (bools (tab n (fun _ => false))) 4 (0, 0))
structure FourM (wr w' : World) (n bn bl bo bp : Nat) : Prop where
 hn : w'.heap[bn]? = some (.cells (ints (tab n (fun _ => 0))) 3 (0, 0))
 hl : w'.heap[bl]? = some (.cells (ints (tab n (fun _ => 0))) 3 (0, 0))
 ho : w'.heap[bo]? = some (.cells (bools (tab n (fun _ => false))) 4 (0, 0))
 hp : w'.heap[bp]? = some (.cells (ints (tab n (fun _ => 0))) 3 (0, 0))
 d : (wr.heap.size ≤ bn ∧ wr.heap.size ≤ bl ∧ wr.heap.size ≤ bo ∧ wr.heap.size ≤ bp) ∧ bn ≠ bl ∧ bn ≠ bo ∧ bn ≠ bp ∧ bl ≠ bo ∧ bl ≠ bp ∧ bo ≠ bp
def mkI (i : Nat) : Bool := i == 2 || i == 4 || i == 6 || i == 8
def ptR (w wr : World) (gS gA gT : Value) (n : Nat) (i : Nat) (v : Value) (w' : World) : Prop :=
 match i with
 | 0 => v = .agg #[gS, gA, gT]
 | 2 => ZI wr n v w'
 | 4 => ZI wr n v w'
 | 6 => ZB wr n v w'
 | 8 => ZI wr n v w'
 | 9 => ∃ bn bl bo bp, v = .agg #[gS, gA, gT, slV bn n, slV bl n, slV bo n, .slice none 0 0, slV bp n, .int .i64 0, .slice none 0 0] ∧ FourM wr w' n bn bl bo bp
 | 10 => ∃ sb bn bl bo bp base, v = .pointer (some ⟨sb, 0, none⟩) ∧ SrM w w' gS gA gT sb bn bl bo bp base n (fun _ => 0) (fun _ => 0) (fun _ => false) [] (fun _ => 0) 0 [] (.slice none 0 0) (.slice none 0 0)
 | 11 => ∃ sb bn bl bo bp base, v = .pointer (some ⟨sb, 0, none⟩) ∧ SrM w w' gS gA gT sb bn bl bo bp base n (fun _ => 0) (fun _ => 0) (fun _ => false) [] (fun _ => 0) 0 [] (.slice none 0 0) (.slice none 0 0)
 | _ => v = .int .i64 (n : Nat)
def ptS (i j : Nat) (u v : Value) : Prop := mkI i = true → mkI j = true → u.ownBlock ≠ v.ownBlock
theorem ptR_mono {w wr : World} {gS gA gT : Value} {n i : Nat} {u : Value} {a b : World} (hb : Below a.heap.size a b) (h : ptR w wr gS gA gT n i u a) : ptR w wr gS gA gT n i u b := by
 unfold ptR at h ⊢
 split at h
 ·exact h
 ·obtain ⟨x, e, hx, hh⟩ := h; exact ⟨x, e, hx, bheap hb hh⟩
 ·obtain ⟨x, e, hx, hh⟩ := h; exact ⟨x, e, hx, bheap hb hh⟩
 ·obtain ⟨x, e, hx, hh⟩ := h; exact ⟨x, e, hx, bheap hb hh⟩
 ·obtain ⟨x, e, hx, hh⟩ := h; exact ⟨x, e, hx, bheap hb hh⟩
 ·obtain ⟨x, y, z, t, e, h⟩ := h; exact ⟨x, y, z, t, e, bheap hb h.hn, bheap hb h.hl, bheap hb h.ho, bheap hb h.hp, h.d⟩
 ·obtain ⟨s, x, y, z, t, q, e, h⟩ := h; exact ⟨s, x, y, z, t, q, e, h.more hb⟩
 ·obtain ⟨s, x, y, z, t, q, e, h⟩ := h; exact ⟨s, x, y, z, t, q, e, h.more hb⟩
 ·exact h
theorem ptS_no {w wr : World} {gS gA gT : Value} {n j : Nat} {w' : World} {v : Value} (h : mkI j = false) : ∀ i u, i ≠ j → ptR w wr gS gA gT n i u w' → ptS i j u v ∧ ptS j i v u :=
 fun i u _ _ => ⟨fun _ h2 => (by rw [h] at h2; cases h2), fun h2 _ => (by rw [h] at h2; cases h2)⟩
theorem pt_old {w wr : World} {gS gA gT : Value} {n i : Nat} {u : Value} {w' : World} (hi : mkI i = true) (h : ptR w wr gS gA gT n i u w') : ∃ b, u = slV b n ∧ wr.heap.size ≤ b ∧ b < w'.heap.size := by
 have : i = 2 ∨ i = 4 ∨ i = 6 ∨ i = 8 := by simpa [mkI, or_assoc] using hi
 rcases this with rfl | rfl | rfl | rfl
 all_goals
  obtain ⟨b, e, hb, hh⟩ := h
  exact ⟨b, e, hb, (Array.getElem?_eq_some_iff.1 hh).1⟩
theorem ptS_new {w wr : World} {gS gA gT : Value} {j : Nat} {w' : World} (n : Nat) : ∀ i u, i ≠ j → ptR w wr gS gA gT n i u w' → ptS i j u (slV w'.heap.size n) ∧ ptS j i (slV w'.heap.size n) u := by
 intro i u _ h
 refine ⟨fun hi _ e => ?_, fun _ hi e => ?_⟩
 ·obtain ⟨b, rfl, -, hb⟩ := pt_old hi h
  simp [Value.ownBlock] at e
  omega
 ·obtain ⟨b, rfl, -, hb⟩ := pt_old hi h
  simp [Value.ownBlock] at e
  omega
theorem pt_new_i (w wr : World) (gS gA gT : Value) (n : Nat) (w' : World) (hw : wr.heap.size ≤ w'.heap.size) (i : Nat) (hi : i = 2 ∨ i = 4 ∨ i = 8) : ptR w wr gS gA gT n i (slV w'.heap.size n) (w'.alloc (.cells (madeCells #[.int .i64 0] n) 3)) := by
 have : ZI wr n (slV w'.heap.size n) (w'.alloc (.cells (madeCells #[.int .i64 0] n) 3)) := ⟨_, rfl, hw, by rw [heap_alloc_new, mints]⟩
 rcases hi with rfl | rfl | rfl <;> exact this
theorem pt_new_b (w wr : World) (gS gA gT : Value) (n : Nat) (w' : World) (hw : wr.heap.size ≤ w'.heap.size) (i : Nat) (hi : i = 6) : ptR w wr gS gA gT n i (slV w'.heap.size n) (w'.alloc (.cells (madeCells #[.bool false] n) 4)) := by
 subst hi
 exact ⟨_, rfl, hw, by rw [heap_alloc_new, mbools]⟩
theorem pt_four {w wr : World} {gS gA gT : Value} {n : Nat} {w' : World} {a b c e : Value} (h2 : ptR w wr gS gA gT n 2 a w') (h4 : ptR w wr gS gA gT n 4 b w') (h6 : ptR w wr gS gA gT n 6 c w') (h8 : ptR w wr gS gA gT n 8 e w')
  (s1 : ptS 2 4 a b) (s2 : ptS 2 6 a c) (s3 : ptS 2 8 a e) (s4 : ptS 4 6 b c) (s5 : ptS 4 8 b e) (s6 : ptS 6 8 c e) :
  ∃ bn bl bo bp, a = slV bn n ∧ b = slV bl n ∧ c = slV bo n ∧ e = slV bp n ∧ FourM wr w' n bn bl bo bp := by
 obtain ⟨bn, rfl, l1, g1⟩ := h2
 obtain ⟨bl, rfl, l2, g2⟩ := h4
 obtain ⟨bo, rfl, l3, g3⟩ := h6
 obtain ⟨bp, rfl, l4, g4⟩ := h8
 have t1 := s1 rfl rfl
 have t2 := s2 rfl rfl
 have t3 := s3 rfl rfl
 have t4 := s4 rfl rfl
 have t5 := s5 rfl rfl
 have t6 := s6 rfl rfl
 simp [Value.ownBlock] at t1 t2 t3 t4 t5 t6
 exact ⟨bn, bl, bo, bp, rfl, rfl, rfl, rfl, g1, g2, g3, g4, ⟨l1, l2, l3, l4⟩, t1, t2, t3, t4, t5, t6⟩
theorem pt_box {w wr w' : World} {n bn bl bo bp : Nat} {gS gA gT : Value} (h0 : Below w.heap.size w wr) (hb : Below wr.heap.size wr w') (h : FourM wr w' n bn bl bo bp) :
  SrM w (w'.alloc (.cells #[gS, gA, gT, slV bn n, slV bl n, slV bo n, .slice none 0 0, slV bp n, .int .i64 0, .slice none 0 0] 113)) gS gA gT w'.heap.size bn bl bo bp (w'.heap.size + 1) n (fun _ => 0) (fun _ => 0) (fun _ => false) [] (fun _ => 0) 0 [] (.slice none 0 0) (.slice none 0 0) := by
 have hk := balloc w' (.cells #[gS, gA, gT, slV bn n, slV bl n, slV bo n, .slice none 0 0, slV bp n, .int .i64 0, .slice none 0 0] 113)
 have z0 := h0.size
 have z1 := hb.size
 have l1 := (Array.getElem?_eq_some_iff.1 h.hn).1
 have l2 := (Array.getElem?_eq_some_iff.1 h.hl).1
 have l3 := (Array.getElem?_eq_some_iff.1 h.ho).1
 have l4 := (Array.getElem?_eq_some_iff.1 h.hp).1
 obtain ⟨d1, d2⟩ := h.d
 exact ⟨(h0.trans (hb.mono z0)).trans (hk.mono (by omega)), heap_alloc_new _ _, bheap hk h.hn, bheap hk h.hl, bheap hk h.ho, bheap hk h.hp, World.ownsRow_nil _ _ _ _, World.ownsRow_nil _ _ _ _,
  ⟨by omega, by omega, by omega⟩, by simp⟩
section
variable {w wr : World} {gS gA gT : Value} {sb bn bl bo bp base n : Nat} {num num' low : Nat → Int} {on : Nat → Bool} {nodes : List Nat} {part : Nat → Int} {parts : Nat} {calls : List (Nat × Nat)} {nv cv : Value}
theorem tab_same {α : Type} {f f' : Nat → α} (h : ∀ x, x < n → f x = f' x) : tab n f = tab n f' := by
 unfold tab
 exact List.map_congr_left fun x hx => h x (List.mem_range.1 hx)
theorem SrM.numEq (h : SrM w wr gS gA gT sb bn bl bo bp base n num low on nodes part parts calls nv cv) (e : ∀ x, x < n → num x = num' x) : SrM w wr gS gA gT sb bn bl bo bp base n num' low on nodes part parts calls nv cv :=
 ⟨h.below, h.hs, by rw [← tab_same e]; exact h.hn, h.hl, h.ho, h.hp, h.rn, h.rc, h.d, h.hb⟩
end
structure PtM (w wr : World) (sb bp n : Nat) (part : Nat → Int) : Prop where
 below : Below w.heap.size w wr
 hs : ∃ c, c[7]? = some (slV bp n) ∧ wr.heap[sb]? = some (.cells c 113 (0, 0))
 hp : wr.heap[bp]? = some (.cells (ints (tab n part)) 3 (0, 0))
 d : w.heap.size ≤ sb ∧ w.heap.size ≤ bp ∧ sb ≠ bp
theorem SrM.pt {w wr : World} {gS gA gT : Value} {sb bn bl bo bp base n : Nat} {num low : Nat → Int} {on : Nat → Bool} {nodes : List Nat} {part : Nat → Int} {parts : Nat} {calls : List (Nat × Nat)} {nv cv : Value}
  (h : SrM w wr gS gA gT sb bn bl bo bp base n num low on nodes part parts calls nv cv) : PtM w wr sb bp n part :=
 ⟨h.below, ⟨_, rfl, h.hs⟩, h.hp, by obtain ⟨d1, d2, d3⟩ := h.d; omega⟩
section
variable {w wr w' : World} {sb bp n : Nat} {part : Nat → Int}
theorem PtM.drew (h : PtM w wr sb bp n part) : PtM w wr.drew sb bp n part := ⟨h.below.drew, h.hs, h.hp, h.d⟩
theorem PtM.more (h : PtM w wr sb bp n part) (hb : Below wr.heap.size wr w') : PtM w w' sb bp n part := by
 obtain ⟨c, hc, hs⟩ := h.hs
 exact ⟨h.below.trans (hb.mono h.below.size), ⟨c, hc, bheap hb hs⟩, bheap hb h.hp, h.d⟩
theorem PtM.grown (h : PtM w wr sb bp n part) {mb : Nat} (hg : wr.grownBy w' (some mb)) (hm : w.heap.size ≤ mb) (h1 : mb ≠ sb) (h2 : mb ≠ bp) : PtM w w' sb bp n part := by
 obtain ⟨c, hc, hs⟩ := h.hs
 have hf : Frm (fun q => q = mb) wr w' := (Frm.refl _ wr).grown hg (fun k hk _ => by cases hk; rfl)
 exact ⟨h.below.grown hg h.below.size (fun k hk => by cases hk; exact hm), ⟨c, hc, hf.heap hs (fun e => h1 e.symm)⟩, hf.heap h.hp (fun e => h2 e.symm), h.d⟩
theorem PtM.set (h : PtM w wr sb bp n part) (k : Nat) (v : Int) : PtM w (wr.setCell ⟨bp, k, none⟩ (.int .i64 v)) sb bp n (upd part k v) := by
 obtain ⟨c, hc, hs⟩ := h.hs
 obtain ⟨d1, d2, d3⟩ := h.d
 have hf : Frm (fun q => q = bp) wr (wr.setCell ⟨bp, k, none⟩ (.int .i64 v)) := (Frm.refl (fun q => q = bp) wr).setCell (p := ⟨bp, k, none⟩) (fun _ => rfl) _
 refine ⟨h.below.setCell (p := ⟨bp, k, none⟩) d2 _, ⟨c, hc, hf.heap hs d3⟩, ?_, h.d⟩
 rw [heap_setCell_block h.hp, ints_set, tab_upd]
theorem PtM.cell (h : PtM w wr sb bp n part) {k : Nat} (hk : k < n) : wr.cell? ⟨bp, k, none⟩ = some (.int .i64 (part k)) := by
 have := cell_of_block h.hp k _ (ints_get _ k (by rw [tab_len]; exact hk))
 rwa [tab_get _ _ _ _ hk] at this
theorem PtM.free (h : PtM w wr sb bp n part) (k : Nat) : wr.frozen? ⟨bp, k, none⟩ = false := free_of_block h.hp k
theorem PtM.f7 (h : PtM w wr sb bp n part) : wr.cell? ⟨sb, 7, none⟩ = some (slV bp n) := by
 obtain ⟨c, hc, hs⟩ := h.hs
 exact cell_of_block hs 7 _ hc
theorem PtM.same (h : PtM w wr sb bp n part) {part' : Nat → Int} (e : ∀ x, x < n → part x = part' x) : PtM w wr sb bp n part' :=
 ⟨h.below, h.hs, by rw [← tab_same e]; exact h.hp, h.d⟩
end
def nmF (part : Nat → Int) (i : Nat) : Int → Option Int := fun p => ((List.range i).find? (fun k => decide (p = part k))).map (fun k => ((cnV (eqB part) k : Nat) : Int))
def mixP (part : Nat → Int) (i : Nat) : Nat → Int := fun k => if k < i then ((cnV (eqB part) k : Nat) : Int) else part k
theorem nm_had (part : Nat → Int) (i : Nat) : (nmF part i (part i)).isSome = ((List.range i).find? (fun k => eqB part i k)).isSome := by
 simp [nmF, eqB]
theorem nm_yes {part : Nat → Int} {i : Nat} (h : (nmF part i (part i)).isSome = true) : nmF part i (part i) = some ((cnV (eqB part) i : Nat) : Int) ∧ nmF part (i + 1) = nmF part i ∧ (cnS (eqB part) (i + 1)).2 = (cnS (eqB part) i).2 := by
 rw [nm_had] at h
 obtain ⟨k, hk⟩ := Option.isSome_iff_exists.1 h
 have e1 : nmF part i (part i) = some ((cnV (eqB part) i : Nat) : Int) := by
  rw [cnV_some hk]
  show Option.map _ ((List.range i).find? (fun k => eqB part i k)) = _
  rw [hk]; rfl
 refine ⟨e1, ?_, cnS_next_some hk⟩
 funext p
 unfold nmF
 rw [List.range_succ, List.find?_append]
 by_cases e : p = part i
 ·have : (List.range i).find? (fun k => decide (p = part k)) = some k := by rw [e]; exact hk
  rw [this]; rfl
 ·rcases (List.range i).find? (fun k => decide (p = part k)) with _ | j
  ·simp [e]
  ·rfl
theorem nm_no {part : Nat → Int} {i : Nat} (h : (nmF part i (part i)).isSome = false) : (fun x => if x = part i then some (((cnS (eqB part) i).2 : Nat) : Int) else nmF part i x) = nmF part (i + 1) ∧ (cnS (eqB part) (i + 1)).2 = (cnS (eqB part) i).2 + 1 ∧
  nmF part (i + 1) (part i) = some ((cnV (eqB part) i : Nat) : Int) ∧ (((cnS (eqB part) i).2 : Nat) : Int) = ((cnV (eqB part) i : Nat) : Int) := by
 rw [nm_had] at h
 have hk : (List.range i).find? (fun k => eqB part i k) = none := by simpa using h
 have e0 : nmF part (i + 1) (part i) = some ((cnV (eqB part) i : Nat) : Int) := by
  unfold nmF
  rw [List.range_succ, List.find?_append]
  have : (List.range i).find? (fun k => decide (part i = part k)) = none := hk
  rw [this]
  simp
 refine ⟨?_, cnS_next_none hk, e0, by rw [cnV_none hk]⟩
 funext p
 by_cases e : p = part i
 ·rw [if_pos e, e, e0, cnV_none hk]
 ·rw [if_neg e]
  unfold nmF
  rw [List.range_succ, List.find?_append]
  rcases (List.range i).find? (fun k => decide (p = part k)) with _ | j
  ·simp [e]
  ·rfl
theorem mixP_step (part : Nat → Int) (i : Nat) : upd (mixP part i) i ((cnV (eqB part) i : Nat) : Int) = mixP part (i + 1) := by
 funext k
 by_cases e : k = i
 ·rw [e, upd_same]; simp [mixP]
 ·rw [upd_other _ _ _ _ e]
  unfold mixP
  by_cases h : k < i
  ·rw [if_pos h, if_pos (by omega)]
  ·rw [if_neg h, if_neg (by omega)]
theorem fill_step (k : Nat) (x : Nat) : upd (fun x => if x < k then (-1 : Int) else 0) k (-1) x = if x < k + 1 then -1 else 0 := by
 by_cases e : x = k
 ·rw [e, upd_same, if_pos (by omega)]
 ·rw [upd_other _ _ _ _ e]
  by_cases h : x < k
  ·rw [if_pos h, if_pos (by omega)]
  ·rw [if_neg h, if_neg (by omega)]
def ts0 : TS := ⟨fun _ => -1, fun _ => 0, fun _ => false, [], fun _ => 0, 0, [], 0⟩
theorem run_init (G : TG) : RunInv G (fun _ => -1) ts0 := by
 refine ⟨⟨fun x => .inl rfl, fun x y h => ?_, fun x => by simp [ts0], List.Pairwise.nil, fun x h => ?_, fun c h => ?_, List.Pairwise.nil, fun c h => ?_, fun c h => ?_, fun x y h => ?_, fun x k h => ?_, fun x h => ?_, fun x h => ?_, fun x h => ?_, fun c h => ?_, fun x h => ?_, fun x h => ?_, fun x y h => ?_⟩, ?_, ?_, fun x h => ?_⟩
 all_goals first
  | (simp [ts0] at h; done)
  | (simp [ts0]; done)
  | skip
 have : ∀ n, unseen n ts0.num = n := fun n => by
  induction n with
  | zero => rfl
  | succ n ih => rw [unseen_succ, ih]; simp [ts0]
 rw [this]; simp [ts0]
end Go.Proofs.Ytlhpjfnfemebdaa
namespace Go.Proofs.Ytlhpjfnfemebdaa
open Go.RowKit
def startC (u : PUn) : Cf := ⟨List.replicate u.regs.length 0, u.regs.map (fun r => List.replicate r.toNat 0), u.init, List.replicate u.regs.length []⟩
structure StM (w wr : World) (uc : Array Value) (D : Nat) (d0 d1 d2 d3 : Value) : Prop where
 low : Below w.heap.size w wr
 bu : wr.heap[w.heap.size]? = some (.cells uc 25 (0, 0))
 br : wr.heap[w.heap.size + 1]? = some (.cells #[.slice none 0 0, .slice none 0 0, .slice none 0 0, .slice none 0 0] 52 (0, 0))
 bd : wr.heap[D]? = some (.cells #[d0, d1, d2, d3] 52 (0, 0))
 hD : w.heap.size + 2 ≤ D
section
variable {w wr w' : World} {uc : Array Value} {D : Nat} {d0 d1 d2 d3 : Value}
theorem StM.size (h : StM w wr uc D d0 d1 d2 d3) : D + 1 ≤ wr.heap.size := (Array.getElem?_eq_some_iff.1 h.bd).1
theorem StM.alloc (h : StM w wr uc D d0 d1 d2 d3) (o : Obj) : StM w (wr.alloc o) uc D d0 d1 d2 d3 :=
 ⟨h.low.trans ((balloc wr o).mono h.low.size), bheap (balloc wr o) h.bu, bheap (balloc wr o) h.br, bheap (balloc wr o) h.bd, h.hD⟩
theorem StM.grown (h : StM w wr uc D d0 d1 d2 d3) {r : Option Nat} (hg : wr.grownBy w' r) (hr : ∀ k, r = some k → D + 1 ≤ k) : StM w w' uc D d0 d1 d2 d3 := by
 have hs := h.size
 have hD := h.hD
 refine ⟨h.low.grown hg h.low.size (fun k hk => by have := hr k hk; omega), ?_, ?_, ?_, hD⟩
 ·rw [hg.block _ (by omega) (fun e => by have := hr _ e.symm; omega)]; exact h.bu
 ·rw [hg.block _ (by omega) (fun e => by have := hr _ e.symm; omega)]; exact h.br
 ·rw [hg.block _ (by omega) (fun e => by have := hr _ e.symm; omega)]; exact h.bd
theorem StM.more (h : StM w wr uc D d0 d1 d2 d3) (hb : Below wr.heap.size wr w') : StM w w' uc D d0 d1 d2 d3 := ⟨h.low.trans (hb.mono h.low.size), bheap hb h.bu, bheap hb h.br, bheap hb h.bd, h.hD⟩
theorem StM.drew (h : StM w wr uc D d0 d1 d2 d3) : StM w wr.drew uc D d0 d1 d2 d3 := ⟨h.low.drew, h.bu, h.br, h.bd, h.hD⟩
theorem StM.put0 (h : StM w wr uc D d0 d1 d2 d3) (v : Value) : StM w (wr.setCell ⟨D, 0, none⟩ v) uc D v d1 d2 d3 :=
 ⟨h.low.setCell (p := ⟨D, 0, none⟩) (by have := h.hD; show w.heap.size ≤ D; omega) v, by rw [heap_set_ne (by have := h.hD; omega)]; exact h.bu, by rw [heap_set_ne (by have := h.hD; omega)]; exact h.br, heap_setCell_block h.bd 0 v, h.hD⟩
theorem StM.put1 (h : StM w wr uc D d0 d1 d2 d3) (v : Value) : StM w (wr.setCell ⟨D, 1, none⟩ v) uc D d0 v d2 d3 :=
 ⟨h.low.setCell (p := ⟨D, 1, none⟩) (by have := h.hD; show w.heap.size ≤ D; omega) v, by rw [heap_set_ne (by have := h.hD; omega)]; exact h.bu, by rw [heap_set_ne (by have := h.hD; omega)]; exact h.br, heap_setCell_block h.bd 1 v, h.hD⟩
theorem StM.put2 (h : StM w wr uc D d0 d1 d2 d3) (v : Value) : StM w (wr.setCell ⟨D, 2, none⟩ v) uc D d0 d1 v d3 :=
 ⟨h.low.setCell (p := ⟨D, 2, none⟩) (by have := h.hD; show w.heap.size ≤ D; omega) v, by rw [heap_set_ne (by have := h.hD; omega)]; exact h.bu, by rw [heap_set_ne (by have := h.hD; omega)]; exact h.br, heap_setCell_block h.bd 2 v, h.hD⟩
theorem StM.put3 (h : StM w wr uc D d0 d1 d2 d3) (v : Value) : StM w (wr.setCell ⟨D, 3, none⟩ v) uc D d0 d1 d2 v :=
 ⟨h.low.setCell (p := ⟨D, 3, none⟩) (by have := h.hD; show w.heap.size ≤ D; omega) v, by rw [heap_set_ne (by have := h.hD; omega)]; exact h.bu, by rw [heap_set_ne (by have := h.hD; omega)]; exact h.br, heap_setCell_block h.bd 3 v, h.hD⟩
end
theorem startC_ok {u : PUn} (hR : rightU u = true) : CfOk u 0 (startC u) := by
 obtain ⟨⟨hm1, hm2⟩, hin, -, ⟨hr1, hr4⟩, hcl, hrow⟩ := rightU_iff.1 hR
 have hreg : ∀ t, t < u.regs.length → (startC u).regs.getD t [] = List.replicate (u.regs.getD t 0).toNat 0 := fun t ht => by
  simp [startC, List.getD, ht]
 refine ⟨by simp [startC], by simp [startC], by simp [startC], rfl, fun t ht => ?_, fun t ht => ?_, fun t ht => ?_, hin, fun t ht => ?_, fun t ht y hy => ?_⟩
 ·obtain ⟨-, ⟨h1, -⟩, -⟩ := rowU_iff.1 (hrow t ht)
  have : (startC u).pc.getD t 0 = 0 := by simp [startC, List.getD, ht]
  rw [this]
  omega
 ·obtain ⟨⟨h1, -⟩, -⟩ := rowU_iff.1 (hrow t ht)
  rw [hreg t ht, List.length_replicate]
  omega
 ·rw [hreg t ht]
  refine allR_iff.2 fun y hy => ?_
  rw [(List.mem_replicate.1 hy).2]
  omega
 ·have : (startC u).buf.getD t [] = [] := by simp [startC, List.getD, ht]
  rw [this]; simp
 ·have : (startC u).buf.getD t [] = [] := by simp [startC, List.getD, ht]
  rw [this] at hy; cases hy
abbrev nilV : Value := .slice none 0 0
theorem ap_nil (v : Value) : AP v nilV := fun q h1 h2 => by cases h2
structure StS (base : Nat) (w : World) (vp vr vb : Value) (p : List Int) (rg : List (List Int)) (rv : List Value) (nb : Nat) : Prop where
 pc : OwnI base w vp p
 regs : OwnRs base w vr rg rv
 buf : w.ownsRow base 99 1 vb nb (List.replicate nb nilV)
 apart : (vp :: vr :: vb :: rv).Pairwise AP
section
variable {base : Nat} {w w' : World} {vp vr vb : Value} {p : List Int} {rg : List (List Int)} {rv : List Value} {nb : Nat}
theorem StS.nil (base : Nat) (w : World) : StS base w nilV nilV nilV [] [] [] 0 :=
 ⟨World.ownsRow_nil _ _ _ _, ⟨rfl, World.ownsRow_nil _ _ _ _, fun j hj => by simp at hj⟩, World.ownsRow_nil _ _ _ _, List.pairwise_cons.2 ⟨fun x hx => (by simp at hx; subst hx; exact ap_nil _), List.pairwise_cons.2 ⟨fun x hx => (by simp at hx; subst hx; exact ap_nil _), List.pairwise_singleton _ _⟩⟩⟩
theorem StS.more (h : StS base w vp vr vb p rg rv nb) (hb : Below w.heap.size w w') : StS base w' vp vr vb p rg rv nb :=
 ⟨h.pc.more hb, ⟨h.regs.len, ownm h.regs.out hb, fun j hj => (h.regs.inn j hj).more hb⟩, ownm h.buf hb, h.apart⟩
theorem StS.setlow (h : StS base w vp vr vb p rg rv nb) {b i : Nat} (hb : b < base) (x : Value) : StS base (w.setCell ⟨b, i, none⟩ x) vp vr vb p rg rv nb :=
 ⟨h.pc.setlow hb x, h.regs.setlow hb x, ownsRow_setCell_below h.buf hb x, h.apart⟩
theorem StS.lts (h : StS base w vp vr vb p rg rv nb) : ∀ x ∈ vp :: vr :: vb :: rv, ∀ q, x.ownBlock = some q → q < w.heap.size := fun x hx q e => by
 simp only [List.mem_cons] at hx
 rcases hx with rfl | rfl | rfl | hx
 ·exact (World.ownsRow.lt h.pc q e).2
 ·exact (World.ownsRow.lt h.regs.out q e).2
 ·exact (World.ownsRow.lt h.buf q e).2
 ·exact h.regs.lts x hx q e
theorem kept3 {v u : Value} {e : TypeId} {size n : Nat} {xs : List Value} {o : Obj} (h : w.ownsRow base e size v n xs) (hg : (w.alloc o).grownBy w' u.ownBlock) (ha : AP v u) : w'.ownsRow base e size v n xs :=
 World.ownsRow.kept (World.ownsRow.alloc h o) hg (by
  cases hv : v.ownBlock with
  | none => exact .inl rfl
  | some q => exact .inr (fun e => ha q hv e.symm))
theorem StS.pushP (h : StS base w vp vr vb p rg rv nb) {o : Obj} {v' : Value} {x : Int} (hg : (w.alloc o).grownBy w' vp.ownBlock) (hown : w'.ownsRow base 3 1 v' (p.length + 1) (p.map (Value.int .i64) ++ [.int .i64 x])) (hor : ∀ q, v'.ownBlock = some q → vp.ownBlock = some q ∨ w.heap.size ≤ q) : StS base w' v' vr vb (p ++ [x]) rg rv nb := by
 obtain ⟨p1, p2⟩ := List.pairwise_cons.1 h.apart
 refine ⟨?_, h.regs.kept2 hg (p1 vr (by simp)).symm (fun y hy => (p1 y (by simp [hy])).symm), kept3 h.buf hg (p1 vb (by simp)).symm, ?_⟩
 ·unfold OwnI
  rw [List.length_append, List.map_append]
  exact hown
 ·exact ap_grow (V := []) (U := vr :: vb :: rv) (N := w.heap.size) h.apart (fun y hy => h.lts y (by simp only [List.nil_append] at hy; exact List.mem_cons_of_mem _ hy)) hor
theorem StS.pushB (h : StS base w vp vr vb p rg rv nb) {o : Obj} {v' : Value} (hg : (w.alloc o).grownBy w' vb.ownBlock) (hown : w'.ownsRow base 99 1 v' (nb + 1) (List.replicate nb nilV ++ [nilV])) (hor : ∀ q, v'.ownBlock = some q → vb.ownBlock = some q ∨ w.heap.size ≤ q) : StS base w' vp vr v' p rg rv (nb + 1) := by
 obtain ⟨p1, p2⟩ := List.pairwise_cons.1 h.apart
 obtain ⟨p3, p4⟩ := List.pairwise_cons.1 p2
 obtain ⟨p5, p6⟩ := List.pairwise_cons.1 p4
 refine ⟨h.pc.kept2 hg (p1 vb (by simp)), h.regs.kept2 hg (p3 vb (by simp)) (fun y hy => (p5 y hy).symm), ?_, ?_⟩
 ·rw [List.replicate_succ', ]
  exact hown
 ·exact ap_grow (V := [vp, vr]) (U := rv) (N := w.heap.size) h.apart (fun y hy => h.lts y (by simp only [List.mem_append, List.mem_cons, List.not_mem_nil, or_false] at hy; simp only [List.mem_cons]; rcases hy with (e | e) | e; exact .inl e; exact .inr (.inl e); exact .inr (.inr (.inr e)))) hor
theorem keptG {v u : Value} {e : TypeId} {size n : Nat} {xs : List Value} (h : w.ownsRow base e size v n xs) (hg : w.grownBy w' u.ownBlock) (ha : AP v u) : w'.ownsRow base e size v n xs :=
 World.ownsRow.kept h hg (by
  cases hv : v.ownBlock with
  | none => exact .inl rfl
  | some q => exact .inr (fun e => ha q hv e.symm))
theorem StS.pushR (h : StS base w vp vr vb p rg rv nb) {N : Nat} (hN : ∀ x ∈ vp :: vr :: vb :: rv, ∀ q, x.ownBlock = some q → q < N) {r v' : Value} {row : List Int} (hr : OwnI base w r row) (hrN : ∀ q, r.ownBlock = some q → N ≤ q) (hg : w.grownBy w' vr.ownBlock) (hown : w'.ownsRow base 22 1 v' (rg.length + 1) (rv ++ [r])) (hor : ∀ q, v'.ownBlock = some q → vr.ownBlock = some q ∨ w.heap.size ≤ q) : StS base w' vp v' vb p (rg ++ [row]) (rv ++ [r]) nb := by
 obtain ⟨p1, p2⟩ := List.pairwise_cons.1 h.apart
 obtain ⟨p3, p4⟩ := List.pairwise_cons.1 p2
 have hrv : AP r vr := (AP.fresh (hN vr (by simp)) hrN).symm
 have hl := h.regs.len
 refine ⟨keptG h.pc hg (p1 vr (by simp)), ⟨by simp [hl], by rw [List.length_append]; exact hown, fun j hj => ?_⟩, keptG h.buf hg (p3 vb (by simp)).symm, ?_⟩
 ·rw [List.length_append, List.length_singleton] at hj
  by_cases e : j < rg.length
  ·rw [List.getD_eq_getElem?_getD, List.getElem?_append_left (by omega), ← List.getD_eq_getElem?_getD, List.getD_eq_getElem?_getD (l := rg ++ [row]), List.getElem?_append_left e, ← List.getD_eq_getElem?_getD]
   exact keptG (h.regs.inn j e) hg (p3 _ (List.mem_cons_of_mem _ (by simp [List.getD, show j < rv.length by omega]))).symm
  ·obtain rfl : j = rg.length := by omega
   rw [List.getD_eq_getElem?_getD, List.getElem?_append_right (by omega), List.getD_eq_getElem?_getD (l := rg ++ [row]), List.getElem?_append_right (Nat.le_refl _)]
   simp only [hl, Nat.sub_self]
   exact keptG hr hg hrv
 ·have PN := ap_new (V := vp :: vr :: vb :: rv) (U := []) (v := r) (N := N) (by rw [List.append_nil]; exact h.apart) (fun x hx => hN x (by rw [List.append_nil] at hx; exact hx)) hrN
  refine ap_grow (V := [vp]) (U := vb :: (rv ++ [r])) (v := vr) (N := w.heap.size) PN (fun x hx q e => ?_) hor
  simp only [List.mem_append, List.mem_cons, List.not_mem_nil, or_false] at hx
  rcases hx with rfl | rfl | hx | rfl
  ·exact h.lts _ (by simp) q e
  ·exact h.lts _ (by simp) q e
  ·exact h.lts x (by simp [hx]) q e
  ·exact (World.ownsRow.lt hr q e).2
theorem StS.conf (h : StS base w vp vr vb p rg rv nb) (hg : w.grownBy w' none) {vm : Value} {m : List Int} (hm : OwnI base w' vm m) (hmN : ∀ q, vm.ownBlock = some q → w.heap.size ≤ q) : OwnC base w' vp vr vm vb rv (List.replicate nb nilV) ⟨p, rg, m, List.replicate nb []⟩ := by
 refine ⟨h.pc.kept0 hg, h.regs.kept0 hg, hm, ⟨by simp, by rw [List.length_replicate]; exact World.ownsRow.kept h.buf hg (own_none _), fun j hj => ?_⟩, ?_⟩
 ·rw [List.length_replicate] at hj
  have e1 : (List.replicate nb nilV).getD j undef = nilV := by simp [List.getD, hj]
  have e2 : (List.replicate nb ([] : List En)).getD j [] = [] := by simp [List.getD, hj]
  show OwnE base w' ((List.replicate nb nilV).getD j undef) ((List.replicate nb ([] : List En)).getD j [])
  rw [e1, e2]
  exact World.ownsRow_nil _ _ _ _
 ·have P1 := ap_new (V := [vp, vr]) (U := vb :: rv) (v := vm) (N := w.heap.size) h.apart (fun x hx => h.lts x (by simpa using hx)) hmN
  have e : vp :: vr :: vm :: vb :: (rv ++ List.replicate nb nilV) = ([vp, vr] ++ vm :: (vb :: rv)) ++ List.replicate nb nilV := by simp
  rw [e, List.pairwise_append]
  exact ⟨P1, List.pairwise_replicate.2 (.inr (ap_nil _)), fun x _ y hy => by rw [(List.mem_replicate.1 hy).2]; exact ap_nil _⟩
end
theorem own_made {base g n : Nat} {w : World} (hb : base ≤ g) (hg : w.heap[g]? = some (.cells (madeCells #[.int .i64 0] n) 3 (0, 0))) (hn : n ≤ 1000) : OwnI base w (.slice (some ⟨g, 0, none⟩) n n) (List.replicate n 0) := by
 rw [mints] at hg
 refine ⟨by simp, .inr ⟨g, n, _, by simp, hb, hg, by simp, by unfold maxLen; omega, ?_, ?_⟩⟩
 ·simp [ints, tab]
 ·simp only [ints, tab, List.map_map, List.map_replicate, Nat.mul_one, List.toList_toArray]
  rw [List.take_of_length_le (by simp)]
  exact List.ext_getElem (by simp) (fun i h1 h2 => by simp)
theorem own_hor {v : Value} {g N M n cap : Nat} (h : v.ownBlock = some g ∨ g = M) (hM : N ≤ M) : ∀ q, (Value.slice (some ⟨g, 0, none⟩) n cap).ownBlock = some q → v.ownBlock = some q ∨ N ≤ q := fun q e => by
 obtain rfl : g = q := by simpa [Value.ownBlock] using e
 rcases h with e | e
 ·exact .inl e
 ·exact .inr (by omega)
def makeRel (w0 : World) (n : Nat) (vs : List Value) (j : Nat) (v : Value) (w : World) : Prop :=
 if j = 7 then ∃ g, v = .slice (some ⟨g, 0, none⟩) n n ∧ OwnI w0.heap.size w v (List.replicate n 0)
 else if j = 8 then ∃ g b, v = .slice (some ⟨b, 0, none⟩) 1 1 ∧ w.heap[b]? = some (.cells #[.slice (some ⟨g, 0, none⟩) n n] 22 (0, 0)) ∧ OwnI w0.heap.size w (.slice (some ⟨g, 0, none⟩) n n) (List.replicate n 0)
 else v = vs.getD j undef
theorem makeRel_mono {w0 : World} {n : Nat} {vs : List Value} {j : Nat} {v : Value} {w w' : World} (hb : Below w.heap.size w w') (h : makeRel w0 n vs j v w) : makeRel w0 n vs j v w' := by
 unfold makeRel at h ⊢
 split
 ·rename_i e
  rw [if_pos e] at h
  obtain ⟨g, e2, h⟩ := h
  exact ⟨g, e2, h.more hb⟩
 ·rename_i e
  rw [if_neg e] at h
  split
  ·rename_i e3
   rw [if_pos e3] at h
   obtain ⟨g, b, e2, h, h2⟩ := h
   exact ⟨g, b, e2, bheap hb h, h2.more hb⟩
  ·rename_i e3
   rw [if_neg e3] at h
   exact h
theorem start_end {w wr : World} {uc : Array Value} {D : Nat} {v0 v1 v2 v3 : Value} {rv bv : List Value} {c : Cf} (m : StM w wr uc D v0 v1 v2 v3) (o : OwnC (D + 1) wr v0 v1 v2 v3 rv bv c) :
  OwnC w.heap.size ((((wr.setCell ⟨w.heap.size + 1, 0, none⟩ v0).setCell ⟨w.heap.size + 1, 1, none⟩ v1).setCell ⟨w.heap.size + 1, 2, none⟩ v2).setCell ⟨w.heap.size + 1, 3, none⟩ v3) v0 v1 v2 v3 rv bv c ∧
  Below w.heap.size w ((((wr.setCell ⟨w.heap.size + 1, 0, none⟩ v0).setCell ⟨w.heap.size + 1, 1, none⟩ v1).setCell ⟨w.heap.size + 1, 2, none⟩ v2).setCell ⟨w.heap.size + 1, 3, none⟩ v3) ∧
  ((((wr.setCell ⟨w.heap.size + 1, 0, none⟩ v0).setCell ⟨w.heap.size + 1, 1, none⟩ v1).setCell ⟨w.heap.size + 1, 2, none⟩ v2).setCell ⟨w.heap.size + 1, 3, none⟩ v3).cell? ⟨w.heap.size + 1, 0, none⟩ = some v0 ∧
  ((((wr.setCell ⟨w.heap.size + 1, 0, none⟩ v0).setCell ⟨w.heap.size + 1, 1, none⟩ v1).setCell ⟨w.heap.size + 1, 2, none⟩ v2).setCell ⟨w.heap.size + 1, 3, none⟩ v3).cell? ⟨w.heap.size + 1, 1, none⟩ = some v1 ∧
  ((((wr.setCell ⟨w.heap.size + 1, 0, none⟩ v0).setCell ⟨w.heap.size + 1, 1, none⟩ v1).setCell ⟨w.heap.size + 1, 2, none⟩ v2).setCell ⟨w.heap.size + 1, 3, none⟩ v3).cell? ⟨w.heap.size + 1, 2, none⟩ = some v2 ∧
  ((((wr.setCell ⟨w.heap.size + 1, 0, none⟩ v0).setCell ⟨w.heap.size + 1, 1, none⟩ v1).setCell ⟨w.heap.size + 1, 2, none⟩ v2).setCell ⟨w.heap.size + 1, 3, none⟩ v3).cell? ⟨w.heap.size + 1, 3, none⟩ = some v3 := by
 have hD := m.hD
 have hB : w.heap.size + 1 < D + 1 := by omega
 have hW : w.heap.size ≤ w.heap.size + 1 := by omega
 have OF := ((((o.setlow (i := 0) hB v0).setlow (i := 1) hB v1).setlow (i := 2) hB v2).setlow (i := 3) hB v3).low (show w.heap.size ≤ D + 1 by omega)
 have kb := heap_setCell_block (i := 3) (v := v3) (heap_setCell_block (i := 2) (v := v2) (heap_setCell_block (i := 1) (v := v1) (heap_setCell_block (i := 0) (v := v0) m.br)))
 have BF := (((m.low.setCell (p := ⟨w.heap.size + 1, 0, none⟩) hW v0).setCell (p := ⟨w.heap.size + 1, 1, none⟩) hW v1).setCell (p := ⟨w.heap.size + 1, 2, none⟩) hW v2).setCell (p := ⟨w.heap.size + 1, 3, none⟩) hW v3
 exact ⟨OF, BF, cell_of_block kb 0 v0 rfl, cell_of_block kb 1 v1 rfl, cell_of_block kb 2 v2 rfl, cell_of_block kb 3 v3 rfl⟩
theorem makeRel7 {w0 w' : World} {n : Nat} {vs : List Value} (h : w0.heap.size ≤ w'.heap.size) (hn : n ≤ 1000) : makeRel w0 n vs 7 (.slice (some ⟨w'.heap.size, 0, none⟩) n n) (w'.alloc (.cells (madeCells #[.int .i64 0] n) 3)) := by
 unfold makeRel
 rw [if_pos rfl]
 exact ⟨_, rfl, own_made h (heap_alloc_new w' _) hn⟩
theorem makeRel8 {w0 w' : World} {n g : Nat} {vs : List Value} (h : OwnI w0.heap.size w' (.slice (some ⟨g, 0, none⟩) n n) (List.replicate n 0)) : makeRel w0 n vs 8 (.slice (some ⟨w'.heap.size, 0, none⟩) 1 1) (w'.alloc (.cells #[.slice (some ⟨g, 0, none⟩) n n] 22)) := by
 unfold makeRel
 rw [if_neg (by decide), if_pos rfl]
 exact ⟨g, _, rfl, heap_alloc_new w' _, h.more (balloc w' _)⟩
end Go.Proofs.Ytlhpjfnfemebdaa
