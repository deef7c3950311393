/-
  The laws' arguments, opened: numbers, truths, edges, a graph. A law's arguments, read. A case as a law's argument: a unit, a model, a room, a budget. The references' comparisons, of two that read alike: true. Light. What a law's row asks behind the call, from two facts alone: it returned true; below the heap's old size nothing has turned. So no argument need be shut. Whether a unit is small. edges.made: the graph of a right one's edges, each as it is told, if it is told: over whatever closure that tells. edges.made: the walk. edges.Back, edges.Keep. The graph the other way round: how many edges: no program in sight. The reference's Reach.
-/
import Derived.Carry
import Derived.Deep.Grids
import Derived.Deep.Strs
import Derived.JoinedCond
import Derived.OpenShut
import Derived.ProofKit
import Derived.Test.YtlhpjfnfemebdaaRows
import Derived.Test.YtlhpjfnfemebdaaJBase
import Derived.Test.YtlhpjfnfemebdaaMachU
import Derived.Test.YtlhpjfnfemebdaaRight
import Derived.Deep.OwnRows
import Derived.Deep.RegionLaw
import Derived.Laws.CopyOwn
import Derived.Test.YtlhpjfnfemebdaaOut
import Derived.Laws.EntriesVeiled
import Derived.Test.YtlhpjfnfemebdaaJMachT
import Derived.Test.YtlhpjfnfemebdaaJRowsM
namespace Go.Proofs.Ytlhpjfnfemebdaa
open Go.RowKit Go.ChangeShapes Go.WideShapes Go.Deep
theorem cells_at {w : World} {a : Addr} {n : Nat} {f : Nat → Value} (h : ∀ i, i < n → w.cell? (a.add i) = some (f i)) (hp : 0 < n) :
  ∃ b off, a = ⟨b, off, none⟩ ∧ ∀ j, j < n → w.cell? ⟨b, off + j, none⟩ = some (f j) := by
 obtain ⟨b, off, spot⟩ := a
 have hspot : spot = none := by simpa [Addr.add] using World.cell?_spot (h 0 hp)
 subst hspot
 exact ⟨b, off, rfl, fun j hj => by rw [← Go.WideShapes.add_plain]; exact h j hj⟩
theorem cellsOf3 : Try.prog.cellsOf 3 = 1 := by kernel_rfl
theorem cellsOf65 : Try.prog.cellsOf 65 = 3 := by kernel_rfl
theorem cellsOf22 : Try.prog.cellsOf 22 = 1 := by kernel_rfl
theorem cellsOf30 : Try.prog.cellsOf 30 = 3 := by kernel_rfl
section
variable {H : Type} {enc : TypeId × Value → H} {w : World} {base : Nat}
theorem ints_open {sp : Nat → Bool} {held : Bool} {fuel : Nat} {cs : List Value} {x : DataW H × List MemPlace} (h : DataW.trod enc Try.prog w base sp held fuel 22 cs = some x) :
  ∃ v l, cs = [v] ∧ IntsAt w v l ∧ l.length ≤ maxLen ∧ ∀ x ∈ l, -9223372036854775808 ≤ x ∧ x ≤ 9223372036854775807 := by
 rcases open_ints Try.underlying22 Try.underlying3 cellsOf3 h with ⟨rfl, -⟩ | ⟨a, len, cap, zs, rfl, _, hlc, hm, hz, -, hc, hwf⟩
 ·exact ⟨_, [], rfl, intsAt_nil w, by simp, by simp⟩
 ·have hsl : len ≤ zs.length := by rw [hz]; split <;> omega
  have htl : (zs.take len).length = len := by simp; omega
  refine ⟨_, zs.take len, rfl, ⟨some a, cap, by rw [htl], ?_⟩, by rw [htl]; omega, fun x hx => by have := hwf x (List.mem_of_mem_take hx); simp [Lit.wf] at this; exact this⟩
  intro j hj
  rw [htl] at hj
  obtain ⟨b, off, rfl, hc'⟩ := cells_at (n := len) (f := fun i => .int .i64 (zs.getD i 0)) (fun i hi => hc i (by omega)) (by omega)
  refine ⟨b, off, rfl, ?_⟩
  rw [hc' j hj]
  simp [List.getD, hj]
end
end Go.Proofs.Ytlhpjfnfemebdaa
namespace Go.Proofs.Ytlhpjfnfemebdaa
open Go.RowKit Go.ChangeShapes Go.WideShapes Go.Deep
end Go.Proofs.Ytlhpjfnfemebdaa
namespace Go.Proofs.Ytlhpjfnfemebdaa
open Go.RowKit Go.ChangeShapes Go.WideShapes Go.Deep
theorem cellsOfOp : Try.prog.cellsOf 83 = 3 := by kernel_rfl
theorem cellsOfOps : Try.prog.cellsOf 59 = 1 := by kernel_rfl
theorem cellsOfIn : Try.prog.cellsOf 61 = 7 := by kernel_rfl
theorem cellsOfIns : Try.prog.cellsOf 45 = 1 := by kernel_rfl
theorem cellsOfCode : Try.prog.cellsOf 23 = 1 := by kernel_rfl
theorem cellsOfUnit : Try.prog.cellsOf 25 = 4 := by kernel_rfl
theorem cellsOfCase : Try.prog.cellsOf 27 = 7 := by kernel_rfl
section
variable {H : Type} {enc : TypeId × Value → H} {w : World} {base : Nat} {P : Program} {spare : Nat → Bool} {held : Bool}
theorem trodS4 {t : TypeId} {f0 f1 f2 f3 : Field} {fuel : Nat} {cs : List Value} {x : DataW H × List MemPlace} (ht : P.underlying t = some (.struct #[f0, f1, f2, f3])) (h : DataW.trod enc P w base spare held fuel t cs = some x) :
  ∃ y0 y1 y2 y3 n, DataW.trod enc P w base spare held n f0.type ((cs.drop f0.offset).take (P.cellsOf f0.type)) = some y0 ∧
   DataW.trod enc P w base spare held n f1.type ((cs.drop f1.offset).take (P.cellsOf f1.type)) = some y1 ∧ DataW.trod enc P w base spare held n f2.type ((cs.drop f2.offset).take (P.cellsOf f2.type)) = some y2 ∧
   DataW.trod enc P w base spare held n f3.type ((cs.drop f3.offset).take (P.cellsOf f3.type)) = some y3 := by
 obtain ⟨xs, n, _, rfl, hl, hlen, hf⟩ := DataW.trod_struct ht h
 match xs, hlen with
 | [y0, y1, y2, y3], _ => exact ⟨y0, y1, y2, y3, n, by simpa using hf 0 f0 rfl, by simpa using hf 1 f1 rfl, by simpa using hf 2 f2 rfl, by simpa using hf 3 f3 rfl⟩
theorem trodS7 {t : TypeId} {f0 f1 f2 f3 f4 f5 f6 : Field} {fuel : Nat} {cs : List Value} {x : DataW H × List MemPlace} (ht : P.underlying t = some (.struct #[f0, f1, f2, f3, f4, f5, f6])) (h : DataW.trod enc P w base spare held fuel t cs = some x) :
  ∃ y0 y1 y2 y3 y4 y5 y6 n, DataW.trod enc P w base spare held n f0.type ((cs.drop f0.offset).take (P.cellsOf f0.type)) = some y0 ∧
   DataW.trod enc P w base spare held n f1.type ((cs.drop f1.offset).take (P.cellsOf f1.type)) = some y1 ∧ DataW.trod enc P w base spare held n f2.type ((cs.drop f2.offset).take (P.cellsOf f2.type)) = some y2 ∧
   DataW.trod enc P w base spare held n f3.type ((cs.drop f3.offset).take (P.cellsOf f3.type)) = some y3 ∧ DataW.trod enc P w base spare held n f4.type ((cs.drop f4.offset).take (P.cellsOf f4.type)) = some y4 ∧
   DataW.trod enc P w base spare held n f5.type ((cs.drop f5.offset).take (P.cellsOf f5.type)) = some y5 ∧ DataW.trod enc P w base spare held n f6.type ((cs.drop f6.offset).take (P.cellsOf f6.type)) = some y6 := by
 obtain ⟨xs, n, _, rfl, hl, hlen, hf⟩ := DataW.trod_struct ht h
 match xs, hlen with
 | [y0, y1, y2, y3, y4, y5, y6], _ => exact ⟨y0, y1, y2, y3, y4, y5, y6, n, by simpa using hf 0 f0 rfl, by simpa using hf 1 f1 rfl, by simpa using hf 2 f2 rfl, by simpa using hf 3 f3 rfl, by simpa using hf 4 f4 rfl, by simpa using hf 5 f5 rfl, by simpa using hf 6 f6 rfl⟩
theorem list_len3c {α : Type} {l : List α} (h : l.length = 3) : ∃ a b c, l = [a, b, c] := by
 match l, h with
 | [a, b, c], _ => exact ⟨a, b, c, rfl⟩
theorem cellsOf4c : Try.prog.cellsOf 4 = 1 := by kernel_rfl
instance : Inhabited PIn := ⟨pIn0⟩
theorem list_len7 {α : Type} {l : List α} (h : l.length = 7) : ∃ a b c d e f g, l = [a, b, c, d, e, f, g] := by
 match l, h with
 | [a, b, c, d, e, f, g], _ => exact ⟨a, b, c, d, e, f, g, rfl⟩
theorem ops_open {held : Bool} {fuel : Nat} {cs : List Value} {x : DataW H × List MemPlace} (h : DataW.trod enc Try.prog w base (fun _ => true) held fuel 59 cs = some x) :
  ∃ v l, cs = [v] ∧ EdgesAt w v l := by
 rcases open_slice Try.underlying59 h with ⟨rfl, -⟩ | ⟨a, len, cap, m, n, D, Pl, rfl, _, hlc, hm, hmm, -, hx⟩
 ·exact ⟨_, [], rfl, edgesAt_nil w⟩
 ·rw [cellsOfOp] at hx
  have hlm : len ≤ m := by rw [hmm]; split <;> omega
  obtain ⟨F, hF⟩ := choose_lt (α := Ed) (n := m) (p := fun i e => w.cell? (a.add (i * 3)) = some (.int .i64 e.1) ∧ w.cell? (a.add (i * 3 + 1)) = some (.int .i64 e.2.1) ∧ w.cell? (a.add (i * 3 + 2)) = some (.int .i64 e.2.2)) (fun i hi => by
   obtain ⟨cs', h1, h2⟩ := hx i hi
   obtain ⟨_, hlen, hcell⟩ := World.cells?_some h1
   obtain ⟨y0, y1, y2, n', -, hl, g0, g1, g2⟩ := trod_struct3 Try.underlying83 h2
   clear hl
   obtain ⟨c0, c1, c2, rfl⟩ := list_len3c hlen
   obtain ⟨x0, e0, -⟩ := DataW.trod_int Try.underlying3 (by simpa [cellsOf3] using g0)
   obtain ⟨x1, e1, -⟩ := DataW.trod_int Try.underlying3 (by simpa [cellsOf3] using g1)
   obtain ⟨x2, e2, -⟩ := DataW.trod_int Try.underlying3 (by simpa [cellsOf3] using g2)
   simp only [List.cons.injEq, and_true] at e0 e1 e2
   have q0 := hcell 0 (by omega)
   have q1 := hcell 1 (by omega)
   have q2 := hcell 2 (by omega)
   rw [add_add] at q0 q1 q2
   refine ⟨(x0, x1, x2), ?_, ?_, ?_⟩
   ·simpa [e0] using q0
   ·simpa [e1] using q1
   ·simpa [e2] using q2)
  have htl : ((List.range len).map F).length = len := by simp
  refine ⟨_, (List.range len).map F, rfl, ⟨some a, cap, by rw [htl], ?_⟩⟩
  intro j hj
  rw [htl] at hj
  obtain ⟨b, off, spot⟩ := a
  have hspot : spot = none := by simpa [Addr.add] using World.cell?_spot (hF 0 (by omega)).1
  subst hspot
  obtain ⟨f0, f1, f2⟩ := hF j (by omega)
  rw [Go.WideShapes.add_plain] at f0 f1 f2
  have e : ((List.range len).map F).getD j (0, 0, 0) = F j := by simp [List.getD, hj]
  refine ⟨b, off, rfl, ?_, ?_, ?_⟩
  ·rw [e]; exact f0
  ·rw [e]; exact f1
  ·rw [e]; exact f2
set_option maxRecDepth 100000 in
theorem ins_open {held : Bool} {fuel : Nat} {cs : List Value} {x : DataW H × List MemPlace} (h : DataW.trod enc Try.prog w base (fun _ => true) held fuel 45 cs = some x) :
  ∃ v l, cs = [v] ∧ RowIn w v l := by
 rcases open_slice Try.underlying45 h with ⟨rfl, -⟩ | ⟨a, len, cap, m, n, D, Pl, rfl, _, hlc, hm, hmm, -, hx⟩
 ·exact ⟨_, [], rfl, none, 0, rfl, fun j hj => by simp at hj⟩
 ·rw [cellsOfIn] at hx
  have hlm : len ≤ m := by rw [hmm]; split <;> omega
  obtain ⟨F, hF⟩ := choose_lt (α := PIn) (n := m) (p := fun i x => ∃ ea ec fa fc, w.cell? (a.add (i * 7)) = some (.int .i64 x.op) ∧ w.cell? (a.add (i * 7 + 1)) = some (.int .i64 x.reg) ∧ w.cell? (a.add (i * 7 + 2)) = some (.int .i64 x.loc) ∧
 w.cell? (a.add (i * 7 + 3)) = some (.slice ea x.e.length ec) ∧ w.cell? (a.add (i * 7 + 4)) = some (.slice fa x.f.length fc) ∧ w.cell? (a.add (i * 7 + 5)) = some (.bool x.ne) ∧ w.cell? (a.add (i * 7 + 6)) = some (.int .i64 x.tgt) ∧
 EdgesAt w (.slice ea x.e.length ec) x.e ∧ EdgesAt w (.slice fa x.f.length fc) x.f) (fun i hi => by
   obtain ⟨cs', h1, h2⟩ := hx i hi
   obtain ⟨_, hlen, hcell⟩ := World.cells?_some h1
   obtain ⟨y0, y1, y2, y3, y4, y5, y6, n', g0, g1, g2, g3, g4, g5, g6⟩ := trodS7 Try.underlying61 h2
   obtain ⟨c0, c1, c2, c3, c4, c5, c6, rfl⟩ := list_len7 hlen
   obtain ⟨x0, e0, -⟩ := DataW.trod_int Try.underlying3 (by simpa [cellsOf3] using g0)
   obtain ⟨x1, e1, -⟩ := DataW.trod_int Try.underlying3 (by simpa [cellsOf3] using g1)
   obtain ⟨x2, e2, -⟩ := DataW.trod_int Try.underlying3 (by simpa [cellsOf3] using g2)
   obtain ⟨v3, l3, e3, k3⟩ := ops_open (by simpa [cellsOfOps] using g3)
   obtain ⟨v4, l4, e4, k4⟩ := ops_open (by simpa [cellsOfOps] using g4)
   obtain ⟨x5, e5, -⟩ := DataW.trod_bool Try.underlying4 (by simpa [cellsOf4c] using g5)
   obtain ⟨x6, e6, -⟩ := DataW.trod_int Try.underlying3 (by simpa [cellsOf3] using g6)
   simp only [List.cons.injEq, and_true] at e0 e1 e2 e3 e4 e5 e6
   have q0 := hcell 0 (by omega)
   have q1 := hcell 1 (by omega)
   have q2 := hcell 2 (by omega)
   have q3 := hcell 3 (by omega)
   have q4 := hcell 4 (by omega)
   have q5 := hcell 5 (by omega)
   have q6 := hcell 6 (by omega)
   rw [add_add] at q0 q1 q2 q3 q4 q5 q6
   obtain ⟨ea, ec, hv3, -⟩ := id k3
   obtain ⟨fa, fc, hv4, -⟩ := id k4
   refine ⟨⟨x0, x1, x2, l3, l4, x5, x6⟩, ea, ec, fa, fc, ?_, ?_, ?_, ?_, ?_, ?_, ?_, ?_, ?_⟩
   ·simpa [e0] using q0
   ·simpa [e1] using q1
   ·simpa [e2] using q2
   ·simpa [e3, hv3] using q3
   ·simpa [e4, hv4] using q4
   ·simpa [e5] using q5
   ·simpa [e6] using q6
   ·rw [← hv3]; exact k3
   ·rw [← hv4]; exact k4)
  have htl : ((List.range len).map F).length = len := by simp
  refine ⟨_, (List.range len).map F, rfl, some a, cap, by rw [htl], ?_⟩
  intro j hj
  rw [htl] at hj
  obtain ⟨b, off, spot⟩ := a
  obtain ⟨ea, ec, fa, fc, f0, f1, f2, f3, f4, f5, f6, f7, f8⟩ := hF j (by omega)
  have hspot : spot = none := by
   obtain ⟨_, _, _, _, z0, -⟩ := hF 0 (by omega)
   simpa [Addr.add] using World.cell?_spot z0
  subst hspot
  rw [Go.WideShapes.add_plain] at f0 f1 f2 f3 f4 f5 f6
  have e : ((List.range len).map F).getD j pIn0 = F j := by simp [List.getD, hj]
  rw [e]
  exact ⟨b, off, rfl, ea, ec, fa, fc, f0, f1, f2, f3, f4, f5, f6, f7, f8⟩
theorem code_open {held : Bool} {fuel : Nat} {cs : List Value} {x : DataW H × List MemPlace} (h : DataW.trod enc Try.prog w base (fun _ => true) held fuel 23 cs = some x) :
  ∃ v l, cs = [v] ∧ CodeAt w v l := by
 rcases open_slice Try.underlying23 h with ⟨rfl, -⟩ | ⟨a, len, cap, m, n, D, Pl, rfl, _, hlc, hm, hmm, -, hx⟩
 ·exact ⟨_, [], rfl, none, 0, rfl, fun j hj => by simp at hj⟩
 ·rw [cellsOfIns] at hx
  have hlm : len ≤ m := by rw [hmm]; split <;> omega
  obtain ⟨F, hF⟩ := choose_lt (α := Value × List PIn) (n := m) (p := fun i e => w.cell? (a.add (i * 1)) = some e.1 ∧ RowIn w e.1 e.2) (fun i hi => by
   obtain ⟨cs', h1, h2⟩ := hx i hi
   obtain ⟨v', l', rfl, hb'⟩ := ins_open h2
   obtain ⟨_, _, hcell⟩ := World.cells?_some h1
   have q0 := hcell 0 (by simp)
   rw [add_add] at q0
   exact ⟨(v', l'), by simpa using q0, hb'⟩)
  have htl : ((List.range len).map (fun i => (F i).2)).length = len := by simp
  refine ⟨_, (List.range len).map (fun i => (F i).2), rfl, some a, cap, by rw [htl], ?_⟩
  intro j hj
  rw [htl] at hj
  obtain ⟨b, off, spot⟩ := a
  have hspot : spot = none := by simpa [Addr.add] using World.cell?_spot (hF 0 (by omega)).1
  subst hspot
  obtain ⟨f0, f1⟩ := hF j (by omega)
  rw [Go.WideShapes.add_plain, Nat.mul_one] at f0
  have e : ((List.range len).map (fun i => (F i).2)).getD j [] = (F j).2 := by simp [List.getD, hj]
  exact ⟨b, off, (F j).1, rfl, f0, by rw [e]; exact f1⟩
end
section
variable {H : Type} {enc : TypeId × Value → H} {W : World} {r : Reach} {b0 base : Nat}
structure CaseV (w : World) (v : Value) (u : PUn) (model room budget : Int) : Prop where
 ex : ∃ vi vr vc, v = .agg #[.int .i64 u.mod, vi, vr, vc, .int .i64 model, .int .i64 room, .int .i64 budget] ∧ UnV w (.agg #[.int .i64 u.mod, vi, vr, vc]) u
theorem CaseV.below {w w' : World} {v : Value} {u : PUn} {model room budget : Int} (h : CaseV w v u model room budget) (hb : Below w.heap.size w w') : CaseV w' v u model room budget :=
 let ⟨vi, vr, vc, e, h1⟩ := h.ex
 ⟨vi, vr, vc, e, h1.below hb⟩
set_option maxRecDepth 100000 in
theorem arg_case {held : Bool} {v : Value} {d : DataW H} {p : List MemPlace} (hval : Value.okWide Try.prog W r b0 27 v) (h : DataW.Trod enc Try.prog W base (fun _ => true) held 27 v d p) : ∃ u model room budget, CaseV W v u model room budget := by
 obtain ⟨cs, rfl, hsz⟩ := okWide_struct Try.underlying27 hval
 obtain ⟨fuel, hf⟩ := h
 rw [cellsOfCase] at hsz
 obtain ⟨c0, c1, c2, c3, c4, c5, c6, hcs⟩ := list_len7 (l := cs.toList) (by simpa using hsz)
 obtain rfl : cs = #[c0, c1, c2, c3, c4, c5, c6] := by cases cs; simp_all
 obtain ⟨y0, y1, y2, y3, n', g0, g1, g2, g3⟩ := trodS4 Try.underlying27 hf
 obtain ⟨z0, z1, z2, z3, n'', k0, k1, k2, k3⟩ := trodS4 Try.underlying25 (cs := [c0, c1, c2, c3]) (by simpa [cellsOfUnit, Value.cells] using g0)
 obtain ⟨x1, e1, -⟩ := DataW.trod_int Try.underlying3 (by simpa [cellsOf3, Value.cells] using g1)
 obtain ⟨x2, e2, -⟩ := DataW.trod_int Try.underlying3 (by simpa [cellsOf3, Value.cells] using g2)
 obtain ⟨x3, e3, -⟩ := DataW.trod_int Try.underlying3 (by simpa [cellsOf3, Value.cells] using g3)
 obtain ⟨mo, f0, -⟩ := DataW.trod_int Try.underlying3 (by simpa [cellsOf3] using k0)
 obtain ⟨v1, l1, f1, i1, -⟩ := ints_open (by simpa [cellsOf22] using k1)
 obtain ⟨v2, l2, f2, i2, -⟩ := ints_open (by simpa [cellsOf22] using k2)
 obtain ⟨v3, l3, f3, i3⟩ := code_open (by simpa [cellsOfCode] using k3)
 simp only [List.cons.injEq, and_true] at e1 e2 e3 f0 f1 f2 f3
 subst e1 e2 e3 f0 f1 f2 f3
 exact ⟨⟨mo, l1, l2, l3⟩, x1, x2, x3, ⟨_, _, _, rfl, _, _, _, rfl, i1, i2, i3⟩⟩
end
end Go.Proofs.Ytlhpjfnfemebdaa
namespace Go.Proofs.Ytlhpjfnfemebdaa
open Go.RowKit
set_option maxRecDepth 100000 in
set_option maxHeartbeats 1000000 in
theorem ints_same (v u : Value) (l : List Int) (w : World) (h : IntsAt w v l) (k : IntsAt w u l) (hl : l.length ≤ 1000000) :
  Calls Try.prog 12 #[v, u] w fun e w' => e = .returned (.bool true) ∧ Below w.heap.size w w' := by
 obtain ⟨a, ac, rfl, ha⟩ := h
 obtain ⟨b, bc, rfl, hb⟩ := k
 have HA := Lib.hid ha
 have HB := Lib.hid hb
 clear ha hb
 have nl := ne_false (l.length : Int)
 go_enter Try.func12, Try.ntmps12
 go_wp2_with fail
 clear nl
 go_loopg [5] l.length (fun fu c wr => ∃ k : Nat, k + fu = l.length ∧ c = .int .i64 k ∧ Below w.heap.size w wr)
 case atStart => exact ⟨0, by omega, rfl, Below.refl _ _⟩
 case round =>
  obtain ⟨k, hk, rfl, hbw⟩ := hrel
  by_cases hlt : k < l.length
  ·obtain ⟨b1, o1, rfl, d1⟩ := HA.out k hlt
   obtain ⟨b2, o2, rfl, d2⟩ := HB.out k hlt
   have y1 := bkeep hbw d1
   have y2 := bkeep hbw d2
   have z1 : (k : Int) < (l.length : Int) := by omega
   have n1 := ne_false (l.getD k 0)
   clear d1 d2
   generalize l.getD k 0 = x at *
   go_wp2_with fail
   go_quiet (fail)
   go_wp2_with fail
   go_roundg (gk - 1)
   case measure => omega
   case rel => exact ⟨k + 1, by omega, by simp, bdrewN hbw _⟩
  ·go_wp2_with fail
   go_ret
   exact ⟨rfl, hbw⟩
set_option maxRecDepth 100000 in
set_option maxHeartbeats 1000000 in
theorem bools_same (v u : Value) (l : List Bool) (w : World) (h : BoolsAt w v l) (k : BoolsAt w u l) (hl : l.length ≤ 1000000) :
  Calls Try.prog 11 #[v, u] w fun e w' => e = .returned (.bool true) ∧ Below w.heap.size w w' := by
 obtain ⟨a, ac, rfl, ha⟩ := h
 obtain ⟨b, bc, rfl, hb⟩ := k
 have HA := Lib.hid ha
 have HB := Lib.hid hb
 clear ha hb
 have nl := ne_false (l.length : Int)
 go_enter Try.func11, Try.ntmps11
 go_wp2_with fail
 clear nl
 go_loopg [5] l.length (fun fu c wr => ∃ k : Nat, k + fu = l.length ∧ c = .int .i64 k ∧ Below w.heap.size w wr)
 case atStart => exact ⟨0, by omega, rfl, Below.refl _ _⟩
 case round =>
  obtain ⟨k, hk, rfl, hbw⟩ := hrel
  by_cases hlt : k < l.length
  ·obtain ⟨b1, o1, rfl, d1⟩ := HA.out k hlt
   obtain ⟨b2, o2, rfl, d2⟩ := HB.out k hlt
   have y1 := bkeep hbw d1
   have y2 := bkeep hbw d2
   have z1 : (k : Int) < (l.length : Int) := by omega
   have n1 : (!l.getD k false == l.getD k false) = false := by simp
   have n2 : (l.getD k false != l.getD k false) = false := by simp
   clear d1 d2
   generalize l.getD k false = x at *
   go_wp2_with fail
   go_quiet (fail)
   go_wp2_with fail
   go_roundg (gk - 1)
   case measure => omega
   case rel => exact ⟨k + 1, by omega, by simp, bdrewN hbw _⟩
  ·go_wp2_with fail
   go_ret
   exact ⟨rfl, hbw⟩
end Go.Proofs.Ytlhpjfnfemebdaa
namespace Go.Proofs.Ytlhpjfnfemebdaa
open Go.ChangeShapes Go.WideShapes Go.ChangeAt Go.RowKit
section
variable {H : Type} {enc : TypeId × Value → H} {P : Program}
theorem trodAll_below (hl : laidOutB P = true) {W W' : World} (hb : Below W.heap.size W W') : ∀ (ts : List TypeId) (vs : List Value) (ds : List (DataW H)) (ps : List MemPlace),
  (∀ t ∈ ts, P.readableRec t = true ∧ t < P.types.size) → DataW.TrodAll enc P W 0 (fun _ => true) true ts vs ds ps → (∀ x ∈ ps, x.block < W.heap.size) →
  DataW.TrodAll enc P W' 0 (fun b => decide (b < W.heap.size)) true ts vs ds ps
 | [], vs, ds, ps, _, h, _ => by
  obtain ⟨rfl, rfl, rfl⟩ := trodAll_nil h
  exact trodAll_mk0
 | t :: ts, vs, ds, ps, ht, h, hlt => by
  obtain ⟨v, vs', d, ds', p, q, rfl, rfl, rfl, h1, h2⟩ := trodAll_cons h
  exact trodAll_cons_mk (Below.trod hl (ht t (by simp)).1 (ht t (by simp)).2 h1 hb (fun x hx => hlt x (by simp [hx])))
   (trodAll_below hl hb ts vs' ds' q (fun t' h' => ht t' (by simp [h'])) h2 (fun x hx => hlt x (by simp [hx])))
theorem post_law {f : Func} {s : ChangeSpec} {W W' : World} {args : Array Value} {ds gs : List (DataW H)} {before : List MemPlace} {T : TypeId}
  (hl : laidOutB P = true) (hts : ∀ t ∈ f.params.toList, P.readableRec t = true ∧ t < P.types.size)
  (hres : f.resultTypes = #[T]) (hT : P.underlying T = some .bool) (hvars : s.vars = [])
  (hW : DataW.Whole enc P f.params.toList s.vars false W args.toList ds gs before)
  (hfn : s.fn H (ds ++ gs) = { results := [.lit (.bool true)], args := ds }) (hb : Below W.heap.size W W') :
  s.post enc P f false true false false W args (.bool true) W' := by
 have hlt := hW.lt
 obtain ⟨p, q, hA, hV, hps, hfz, hnd⟩ := id hW
 rw [hvars] at hV
 obtain ⟨rfl, rfl⟩ := trodVars_none hV
 rw [List.append_nil] at hps
 subst hps
 refine ⟨ds, [], before, [], before, [], hW, ?_, ?_, ?_, hb.frame _, fun h => by cases h⟩
 ·rw [hfn, hres]
  exact trodAll_mk1 (shut_bool hT true)
 ·rw [hfn]
  exact trodAll_below hl hb _ _ _ _ hts hA hlt
 ·rw [hvars, hfn]
  rfl
end
end Go.Proofs.Ytlhpjfnfemebdaa
namespace Go.Proofs.Ytlhpjfnfemebdaa
open Go.RowKit
def litIn (x : PIn) : Bool := decide (x.e.length ≤ 300) && decide (x.f.length ≤ 300)
def litRw (r : List PIn) : Bool := decide (r.length ≤ 200) && r.all litIn
def lightU (u : PUn) : Bool := decide (u.init.length ≤ 20) && decide (u.regs.length ≤ 20) && decide (u.code.length ≤ 8) && u.code.all litRw
theorem lightU_iff {u : PUn} : lightU u = true ↔ u.init.length ≤ 20 ∧ u.regs.length ≤ 20 ∧ u.code.length ≤ 8 ∧ ∀ r ∈ u.code, litRw r = true := by
 unfold lightU
 simp only [Bool.and_eq_true, decide_eq_true_iff, List.all_eq_true]
 constructor
 ·rintro ⟨⟨⟨a, b⟩, c⟩, d⟩; exact ⟨a, b, c, d⟩
 ·rintro ⟨a, b, c, d⟩; exact ⟨⟨⟨a, b⟩, c⟩, d⟩
theorem litRw_iff {r : List PIn} : litRw r = true ↔ r.length ≤ 200 ∧ ∀ x ∈ r, x.e.length ≤ 300 ∧ x.f.length ≤ 300 := by
 unfold litRw litIn
 simp only [Bool.and_eq_true, decide_eq_true_iff, List.all_eq_true]
theorem lightU_L {u : PUn} (h : lightU u = true) : UnL u := by
 obtain ⟨a, b, c, d⟩ := lightU_iff.1 h
 exact ⟨a, b, c, fun r hr => litRw_iff.1 (d r hr)⟩
theorem lightU_not {u : PUn} (h : ¬ (u.init.length ≤ 20 ∧ u.regs.length ≤ 20 ∧ u.code.length ≤ 8 ∧ ∀ r ∈ u.code, litRw r = true)) : lightU u = false := by
 cases hb : lightU u
 ·rfl
 ·exact absurd (lightU_iff.1 hb) h
set_option maxRecDepth 100000 in
set_option maxHeartbeats 64000000 in
theorem lightu_ok (v : Value) (u : PUn) (w : World) (h : UnV w v u) : Calls Try.prog 26 #[v] w fun r w' => r = .returned (.bool (lightU u)) ∧ Below w.heap.size w w' := by
 obtain ⟨vi, vr, vc, rfl, hi, hr, hc⟩ := h
 obtain ⟨ia, ic, rfl, -⟩ := hi
 obtain ⟨ra, rc, rfl, -⟩ := hr
 obtain ⟨ca, cc, rfl, hcc⟩ := hc
 have HCC := Lib.hid hcc
 have S0 := Lib.hid (BxC.start w #[.int .i64 u.mod, .slice ia u.init.length ic, .slice ra u.regs.length rc, .slice ca u.code.length cc] 25)
 have HNOT := Lib.hid (lightU_not (u := u))
 clear hcc
 by_cases h1 : (20 : Int) < (u.init.length : Int)
 ·have E := Lib.hid (HNOT.out (fun q => by omega))
  clear HNOT
  go_enter Try.func26, Try.ntmps26
  go_wp2_with fail
  go_ret
  exact ⟨by rw [E.out]; rfl, S0.out.below⟩
 by_cases h2 : (20 : Int) < (u.regs.length : Int)
 ·have E := Lib.hid (HNOT.out (fun q => by omega))
  clear HNOT
  go_enter Try.func26, Try.ntmps26
  go_wp2_with fail
  go_ret
  exact ⟨by rw [E.out]; rfl, S0.out.below⟩
 by_cases h3 : (8 : Int) < (u.code.length : Int)
 ·have E := Lib.hid (HNOT.out (fun q => by omega))
  clear HNOT
  go_enter Try.func26, Try.ntmps26
  go_wp2_with fail
  go_ret
  exact ⟨by rw [E.out]; rfl, S0.out.below⟩
 have HYES : Hid ((∀ t, t < u.code.length → litRw (u.code.getD t []) = true) → lightU u = true) := Lib.hid (fun q => lightU_iff.2 ⟨by omega, by omega, by omega, fun r hr => by
  obtain ⟨k, hk, rfl⟩ := List.getElem_of_mem hr
  have := q k hk
  rwa [List.getD_eq_getElem?_getD, List.getElem?_eq_getElem hk] at this⟩)
 have HBAD : Hid (∀ t, t < u.code.length → litRw (u.code.getD t []) = false → lightU u = false) := Lib.hid (fun t ht hx => HNOT.out (fun q => by rw [q.2.2.2 _ (row_mem ht)] at hx; cases hx))
 clear HNOT
 generalize lightU u = RES at *
 go_enter Try.func26, Try.ntmps26
 go_wp2_with fail
 obtain ⟨w1, hw1⟩ : ∃ w1, w1 = w.alloc (.cells #[.int .i64 u.mod, .slice ia u.init.length ic, .slice ra u.regs.length rc, .slice ca u.code.length cc] 25) := ⟨_, rfl⟩
 rw [← hw1] at S0 ⊢
 clear hw1
 go_loopg [3] u.code.length (fun fu c wr => ∃ t : Nat, t + fu = u.code.length ∧ c = .int .i64 t ∧ Hid (∀ j, j < t → litRw (u.code.getD j []) = true) ∧ Hid (Below w1.heap.size w1 wr))
 case atStart => exact ⟨0, by omega, rfl, Lib.hid (fun j hj => by omega), Lib.hid (Below.refl _ _)⟩
 case round =>
  obtain ⟨t, ht, rfl, HI, HB⟩ := hrel
  have S2 := Lib.hid (S0.out.more HB.out)
  have c3 := cell_of_block S2.out.blk 3 _ rfl
  by_cases hlt : t < u.code.length
  ·have z1 : (t : Int) < (u.code.length : Int) := by omega
   obtain ⟨b2, o2, ru, rfl, d2, hrow⟩ := HCC.out t hlt
   have d2 := bkeep S2.out.below d2
   have hrow := hrow.below S2.out.below
   have HBT := Lib.hid (HBAD.out t hlt)
   have HNX : Hid (litRw (u.code.getD t []) = true → ∀ j, j < t + 1 → litRw (u.code.getD j []) = true) := Lib.hid (fun h j hj => by
    by_cases e : j = t
    ·rw [e]; exact h
    ·exact HI.out j (by omega))
   clear HBAD
   generalize u.code.getD t [] = r at *
   obtain ⟨rra, rrc, rfl, hin⟩ := hrow
   have HIN := Lib.hid hin
   have HN : Hid (¬ (r.length ≤ 200 ∧ ∀ x ∈ r, x.e.length ≤ 300 ∧ x.f.length ≤ 300) → litRw r = false) := Lib.hid (fun h => by
    cases hb : litRw r
    ·rfl
    ·exact absurd (litRw_iff.1 hb) h)
   have HY : Hid (r.length ≤ 200 → (∀ i, i < r.length → (r.getD i pIn0).e.length ≤ 300 ∧ (r.getD i pIn0).f.length ≤ 300) → litRw r = true) := Lib.hid (fun h q => litRw_iff.2 ⟨h, fun x hx => by
    obtain ⟨k, hk, rfl⟩ := List.getElem_of_mem hx
    have := q k hk
    rwa [List.getD_eq_getElem?_getD, List.getElem?_eq_getElem hk] at this⟩)
   have HM : Hid (∀ i, i < r.length → r.getD i pIn0 ∈ r) := Lib.hid (fun i hi => in_mem hi)
   clear hin
   generalize litRw r = RT at *
   by_cases r1 : (200 : Int) < (r.length : Int)
   ·have E := Lib.hid (HBT.out (HN.out (fun q => by omega)))
    clear HN HY HBT HNX
    go_wp2_with fail
    go_ret
    exact ⟨by rw [E.out]; rfl, S2.out.below⟩
   have HY2 := Lib.hid (HY.out (by omega))
   clear HY
   go_wp2_with fail
   clear c3
   obtain ⟨wq, hwq⟩ : ∃ x, x = wr := ⟨_, rfl⟩
   subst hwq
   go_loopg [4] r.length (fun fu c wr3 => ∃ i : Nat, i + fu = r.length ∧ c = .int .i64 i ∧ Hid (∀ j, j < i → (r.getD j pIn0).e.length ≤ 300 ∧ (r.getD j pIn0).f.length ≤ 300) ∧ Hid (Below wq.heap.size wq wr3))
   case atStart => exact ⟨0, by omega, rfl, Lib.hid (fun j hj => by omega), Lib.hid (Below.refl _ _)⟩
   case round =>
    obtain ⟨i, hi, rfl, HJ, HB3⟩ := hrel
    have S4 := Lib.hid (S2.out.more HB3.out)
    have c3 := cell_of_block S4.out.blk 3 _ rfl
    have d2 := bkeep HB3.out d2
    by_cases hli : i < r.length
    ·have z3 : (i : Int) < (r.length : Int) := by omega
     obtain ⟨b3, o3, rfl, ea, ec, fa, fc, -, -, -, q3, q4, -, -, -, -⟩ := HIN.out i hli
     have q3 := bkeep HB3.out q3
     have q4 := bkeep HB3.out q4
     have HX := Lib.hid (HM.out i hli)
     have HJ2 : Hid ((r.getD i pIn0).e.length ≤ 300 ∧ (r.getD i pIn0).f.length ≤ 300 → ∀ j, j < i + 1 → (r.getD j pIn0).e.length ≤ 300 ∧ (r.getD j pIn0).f.length ≤ 300) := Lib.hid (fun h j hj => by
      by_cases e : j = i
      ·rw [e]; exact h
      ·exact HJ.out j (by omega))
     generalize r.getD i pIn0 = x at *
     by_cases e1 : (300 : Int) < (x.e.length : Int)
     ·have E := Lib.hid (HBT.out (HN.out (fun q => by have := (q.2 x HX.out).1; omega)))
      clear HN HY2 HBT HNX HJ2
      go_wp2_with fail
      go_ret
      exact ⟨by rw [E.out]; rfl, S4.out.below⟩
     by_cases e2 : (300 : Int) < (x.f.length : Int)
     ·have E := Lib.hid (HBT.out (HN.out (fun q => by have := (q.2 x HX.out).2; omega)))
      clear HN HY2 HBT HNX HJ2
      go_wp2_with fail
      go_ret
      exact ⟨by rw [E.out]; rfl, S4.out.below⟩
     have HJ3 := Lib.hid (HJ2.out ⟨by omega, by omega⟩)
     go_wp2_with fail
     go_roundg (r.length - (i + 1))
     case measure => omega
     case rel => exact ⟨i + 1, by omega, by simp, HJ3, HB3⟩
    ·have him : i = r.length := by omega
     have HRT := Lib.hid (HNX.out (HY2.out (fun j hj => HJ.out j (by omega))))
     subst him
     have HB6 := Lib.hid (HB.out.trans (HB3.out.mono HB.out.size))
     go_wp2_with fail
     go_roundg (u.code.length - (t + 1))
     case measure => omega
     case rel => exact ⟨t + 1, by omega, by simp, HRT, HB6⟩
  ·have htt : t = u.code.length := by omega
   have E := Lib.hid (HYES.out (fun j hj => HI.out j (by omega)))
   subst htt
   go_wp2_with fail
   go_ret
   exact ⟨by rw [E.out]; rfl, S2.out.below⟩
end Go.Proofs.Ytlhpjfnfemebdaa
namespace Go.Proofs.Ytlhpjfnfemebdaa
open Go.RowKit
theorem App.more {W : World} {lv : Nat} {l : List Ed} {w w' : World} (h : App W lv l w) (hb : Below w.heap.size w w') : App W lv l w' := by
 obtain ⟨v, h1, h2⟩ := h.own
 have hs := h.frm.size
 exact ⟨h.frm.trans (bfrm hb _), v, bheap hb h1, ownsRow_frm (F := fun _ => False) h2 (bfrm hb _) (fun _ _ => id)⟩
theorem GraphAt.off {w w' : World} {v : Value} {g : Gr} {b : Nat} {a1 a2 a3 : Option Addr} {n1 n2 n3 c1 c2 c3 : Nat} {t : TypeId} {fr : Nat × Nat} (h : GraphAt w v g) (hb : w.heap[b]? = some (.cells #[.slice a1 n1 c1, .slice a2 n2 c2, .slice a3 n3 c3] t fr)) (hf : Frm (fun k => k = b) w w') : GraphAt w' v g := by
 have key : ∀ (p : Addr) (x : Int), w.cell? p = some (.int .i64 x) → w'.cell? p = some (.int .i64 x) := by
  intro p x hp
  refine hf.cell hp ?_
  intro e
  obtain ⟨blk, off, spot⟩ := p
  have e : blk = b := e
  subst e
  have hs := World.cell?_spot hp
  simp only at hs
  subst hs
  simp only [World.cell?, hb] at hp
  rcases off with _ | _ | _ | off <;> simp at hp
 obtain ⟨⟨s, a, t, rfl, ⟨sa, sc, rfl, h1⟩, ⟨aa, ac, rfl, h2⟩, ⟨ta, tc, rfl, h3⟩⟩, h4, h5, h6⟩ := h
 refine ⟨⟨_, _, _, rfl, ⟨sa, sc, rfl, ?_⟩, ⟨aa, ac, rfl, ?_⟩, ⟨ta, tc, rfl, ?_⟩⟩, h4, h5, h6⟩
 ·intro j hj; obtain ⟨b', off, e, hc⟩ := h1 j hj; exact ⟨b', off, e, key _ _ hc⟩
 ·intro j hj; obtain ⟨b', off, e, hc⟩ := h2 j hj; exact ⟨b', off, e, key _ _ hc⟩
 ·intro j hj; obtain ⟨b', off, e, hc⟩ := h3 j hj; exact ⟨b', off, e, key _ _ hc⟩
end Go.Proofs.Ytlhpjfnfemebdaa
namespace Go.Proofs.Ytlhpjfnfemebdaa
open Go.RowKit
theorem EdgesAt.drew {w : World} {v : Value} {l : List Ed} (h : EdgesAt w v l) : EdgesAt w.drew v l := h
theorem GraphAt.drew {w : World} {v : Value} {g : Gr} (h : GraphAt w v g) : GraphAt w.drew v g := ⟨h.ex, h.sS, h.sA, h.sT⟩
end Go.Proofs.Ytlhpjfnfemebdaa
namespace Go.Proofs.Ytlhpjfnfemebdaa
open Go.RowKit
end Go.Proofs.Ytlhpjfnfemebdaa
namespace Go.Proofs.Ytlhpjfnfemebdaa
theorem outL_len (g : Gr) (i : Int) : (outL g i).length ≤ g.T.length := by
 unfold outL
 split
 ·rename_i h
  have hR := (rightB_iff g).1 h.1
  have := hR.stTop (i := i.toNat + 1) (by omega)
  rw [eds, edsN_len]; omega
 ·simp
end Go.Proofs.Ytlhpjfnfemebdaa
namespace Go.Proofs.Ytlhpjfnfemebdaa
open Go.RowKit
structure Pass (n : Nat) (fr : List Int) (l : List Ed) (out0 : List Bool) (r : Nat) (out : List Bool) (more : Bool) : Prop where
 len : out.length = n
 sound : ∀ i, i < n → out.getD i false = true → Rch l (Src n fr) (i : Int)
 keep : ∀ j, out0.getD j false = true → out.getD j false = true
 still : more = false → out = out0 ∧ ∀ j, j < r → out.getD (l.getD j (0, 0, 0)).1.toNat false = true → out.getD (l.getD j (0, 0, 0)).2.2.toNat false = true
 less : more = true → falses out < falses out0
theorem Pass.skip {n : Nat} {fr : List Int} {l : List Ed} {out0 out : List Bool} {r : Nat} {more : Bool} (h : Pass n fr l out0 r out more) (hno : out.getD (l.getD r (0, 0, 0)).1.toNat false = true → out.getD (l.getD r (0, 0, 0)).2.2.toNat false = true) : Pass n fr l out0 (r + 1) out more := by
 refine ⟨h.len, h.sound, h.keep, fun hm => ⟨(h.still hm).1, fun j hj => ?_⟩, h.less⟩
 by_cases e : j = r
 ·subst e; exact hno
 ·exact (h.still hm).2 j (by omega)
theorem Pass.hit {n : Nat} {fr : List Int} {l : List Ed} {out0 out : List Bool} {r : Nat} {more : Bool} (h : Pass n fr l out0 r out more) (hr : r < l.length) {f t : Nat} (hf : (l.getD r (0, 0, 0)).1 = (f : Int)) (ht : (l.getD r (0, 0, 0)).2.2 = (t : Int)) (hfn : f < n) (htn : t < n)
  (h1 : out.getD f false = true) (h2 : out.getD t false = false) : Pass n fr l out0 (r + 1) (out.set t true) true := by
 have hfs := falses_set out t (by rw [h.len]; exact htn) h2
 refine ⟨by simp [h.len], ?_, ?_, fun hm => (by cases hm), fun _ => ?_⟩
 ·intro i hi he
  rw [getD_set _ _ _ _ _ (by rw [h.len]; exact htn)] at he
  by_cases e : i = t
  ·subst e
   rw [← ht]
   refine .step (by rw [hf]; exact h.sound f hfn h1) ?_
   rw [show l.getD r (0, 0, 0) = l[r] by simp [List.getD, hr]]
   exact List.getElem_mem hr
  ·rw [if_neg e] at he; exact h.sound i hi he
 ·intro j hj
  rw [getD_set _ _ _ _ _ (by rw [h.len]; exact htn)]
  by_cases e : j = t
  ·rw [if_pos e]
  ·rw [if_neg e]; exact h.keep j hj
 ·cases more
  ·rw [← (h.still rfl).1]; omega
  ·have := h.less rfl; omega
theorem pass_start {n : Nat} {fr : List Int} {l : List Ed} {out : List Bool} (hl : out.length = n) (hs : ∀ i, i < n → out.getD i false = true → Rch l (Src n fr) (i : Int)) : Pass n fr l out 0 out false :=
 ⟨hl, hs, fun _ h => h, fun _ => ⟨rfl, fun j hj => by omega⟩, fun h => by cases h⟩
theorem pass_end {g : Gr} (hR : Rt g) {fr : List Int} {out0 out : List Bool} (h : Pass (nodesN g) fr (allL g) out0 (allL g).length out false) (hb : ∀ i : Nat, i < nodesN g → (i : Int) ∈ fr → out0.getD i false = true) : out = reachL g fr := by
 refine reachL_eq hR fr out h.len h.sound (fun i hi hm => h.keep i (hb i hi hm)) ?_
 intro e he
 obtain ⟨j, hj, rfl⟩ := List.mem_iff_getElem.1 he
 have := (h.still rfl).2 j hj
 rwa [show (allL g).getD j (0, 0, 0) = (allL g)[j] by simp [List.getD, hj]] at this
def markS (n : Nat) (out : List Bool) (i : Int) : List Bool := if 0 ≤ i ∧ i < (n : Int) then out.set i.toNat true else out
def markAll (n : Nat) (fr : List Int) : List Bool := fr.foldl (markS n) (List.replicate n false)
theorem markAll_snoc (n : Nat) (fr : List Int) (i : Int) : markAll n (fr ++ [i]) = markS n (markAll n fr) i := by simp [markAll]
theorem markAll_take (n : Nat) (fr : List Int) (k : Nat) (hk : k < fr.length) : markAll n (fr.take (k + 1)) = markS n (markAll n (fr.take k)) (fr.getD k 0) := by
 rw [List.take_add_one, List.getElem?_eq_getElem hk, Option.toList_some, markAll_snoc]
 simp [List.getD, hk]
theorem markS_len (n : Nat) (out : List Bool) (i : Int) : (markS n out i).length = out.length := by unfold markS; split <;> simp
theorem markAll_spec (n : Nat) : ∀ fr : List Int, (markAll n fr).length = n ∧ ∀ i, i < n → ((markAll n fr).getD i false = true ↔ (i : Int) ∈ fr) := by
 suffices h : ∀ (fr : List Int) (out : List Bool), out.length = n → (fr.foldl (markS n) out).length = n ∧ ∀ i, i < n → ((fr.foldl (markS n) out).getD i false = true ↔ out.getD i false = true ∨ (i : Int) ∈ fr) by
  intro fr
  obtain ⟨a, b⟩ := h fr (List.replicate n false) (by simp)
  refine ⟨a, fun i hi => ?_⟩
  have := b i hi
  unfold markAll
  rw [this]
  simp [List.getD, hi]
 intro fr
 induction fr with
 | nil => intro out hl; exact ⟨hl, fun i _ => by simp⟩
 | cons x fr ih =>
  intro out hl
  obtain ⟨a, b⟩ := ih (markS n out x) (by rw [markS_len, hl])
  refine ⟨a, fun i hi => ?_⟩
  have := b i hi
  rw [List.foldl_cons, this, List.mem_cons]
  unfold markS
  by_cases hx : 0 ≤ x ∧ x < (n : Int)
  ·rw [if_pos hx, getD_set _ _ _ _ _ (by omega)]
   by_cases e : i = x.toNat
   ·rw [if_pos e]
    have : (i : Int) = x := by omega
    simp [this]
   ·rw [if_neg e]
    have : ¬ (i : Int) = x := by omega
    simp [this]
  ·rw [if_neg hx]
   have : ¬ (i : Int) = x := by omega
   simp [this]
structure RrSt (w wr : World) (gc : Array Value) (B : Nat) (out : List Bool) : Prop where
 below : Below w.heap.size w wr
 hB : w.heap.size < B
 vg : wr.heap[w.heap.size]? = some (.cells gc 30 (0, 0))
 bo : wr.heap[B]? = some (.cells (bools out) 4 (0, 0))
theorem RrSt.more {w wr w' : World} {gc : Array Value} {B : Nat} {out : List Bool} (h : RrSt w wr gc B out) (hb : Below wr.heap.size wr w') : RrSt w w' gc B out := ⟨h.below.trans (hb.mono h.below.size), h.hB, bheap hb h.vg, bheap hb h.bo⟩
theorem RrSt.set {w wr : World} {gc : Array Value} {B : Nat} {out : List Bool} (h : RrSt w wr gc B out) (k : Nat) : RrSt w (wr.setCell ⟨B, k, none⟩ (.bool true)) gc B (out.set k true) := by
 have hB := h.hB
 exact ⟨h.below.setCell (p := ⟨B, k, none⟩) (by show w.heap.size ≤ B; omega) _, hB, by rw [Below.heap_setCell _ _ _ _ (show w.heap.size ≠ B by omega)]; exact h.vg, by rw [heap_setCell_block h.bo, bools_set]⟩
theorem RrSt.ints {w w4 wr : World} {gc : Array Value} {B : Nat} {out : List Bool} (h : RrSt w w4 gc B out) (hf : Frm (fun k => k = B) w4 wr) {p : Addr} {x : Int} (hc : w4.cell? p = some (.int .i64 x)) : wr.cell? p = some (.int .i64 x) := by
 refine hf.cell hc ?_
 intro e
 obtain ⟨blk, off, spot⟩ := p
 have e : blk = B := e
 subst e
 have hs := World.cell?_spot hc
 simp only at hs
 subst hs
 simp only [World.cell?, h.bo] at hc
 unfold bools at hc
 simp only [List.getElem?_toArray, List.getElem?_map] at hc
 cases hq : out[off]? <;> simp [hq] at hc
theorem RrSt.cell {w wr : World} {gc : Array Value} {B : Nat} {out : List Bool} (h : RrSt w wr gc B out) (k : Nat) (hk : k < out.length) : wr.cell? ⟨B, k, none⟩ = some (.bool (out.getD k false)) := cell_of_block h.bo k _ (bools_get out k hk)
theorem RrSt.free {w wr : World} {gc : Array Value} {B : Nat} {out : List Bool} (h : RrSt w wr gc B out) (k : Nat) : wr.frozen? ⟨B, k, none⟩ = false := free_of_block h.bo k
set_option maxRecDepth 100000 in
set_option maxHeartbeats 4000000 in
theorem rreach_not (v u : Value) (g : Gr) (w : World) (h : GraphAt w v g) (hR : rightB g = false) : Calls Try.prog 35 #[v, u] w (BoolsBack w []) := by
 obtain ⟨sa, aa, ta, sc, ac, tc, rfl, -⟩ := h.var
 have hb := balloc w (.cells #[.slice sa g.S.length sc, .slice aa g.A.length ac, .slice ta g.T.length tc] 30)
 have HNN := Lib.hid (rnodes_ok _ g _ (h.below hb))
 have HN := Lib.hid (fun w' (hw : Below w.heap.size w w') => rright_ok _ g w' (h.below hw))
 rw [hR] at HN
 have X0 := Lib.hid (heap_alloc_new w (.cells #[.slice sa g.S.length sc, .slice aa g.A.length ac, .slice ta g.T.length tc] 30))
 have HB := Lib.hid hb
 clear h hR hb
 go_enter Try.func35, Try.ntmps35
 go_wp2_with (first
  | (go_at_call 55; refine HNN.out.mono ?_; rintro e w1 ⟨rfl, hb1⟩; have d0 := bkeep hb1 (cell_of_block X0.out 0 _ rfl); have d1 := bkeep hb1 (cell_of_block X0.out 1 _ rfl); have d2 := bkeep hb1 (cell_of_block X0.out 2 _ rfl); have HB1 := Lib.hid (HB.out.trans (hb1.mono HB.out.size)); clear hb1)
  | (go_at_call 50; refine (HN.out _ HB1.out).mono ?_; rintro e w2 ⟨rfl, hb2⟩; have HB2 := Lib.hid (HB1.out.trans (hb2.mono HB1.out.size)); clear hb2))
 go_ret
 exact ⟨_, rfl, boolsAt_nil _, HB2.out⟩
def BoolsNew (w : World) (l : List Bool) (e : Ending) (w' : World) : Prop := ∃ B, e = .returned (.slice (some ⟨B, 0, none⟩) l.length l.length) ∧ w'.heap[B]? = some (.cells (bools l) 4 (0, 0)) ∧ w.heap.size ≤ B ∧ Below w.heap.size w w'
set_option maxRecDepth 100000 in
set_option maxHeartbeats 8000000 in
theorem rreach_new (v u : Value) (g : Gr) (fr : List Int) (w : World) (h : GraphAt w v g) (hu : IntsAt w u fr) (hR : Rt g) (hfl : fr.length ≤ 1000000) : Calls Try.prog 35 #[v, u] w (BoolsNew w (reachL g fr)) := by
 obtain ⟨sa, aa, ta, sc, ac, tc, rfl, -⟩ := h.var
 obtain ⟨fa, fc, rfl, hf⟩ := hu
 have hb := balloc w (.cells #[.slice sa g.S.length sc, .slice aa g.A.length ac, .slice ta g.T.length tc] 30)
 have HNN := Lib.hid (rnodes_ok _ g _ (h.below hb))
 have HN := Lib.hid (fun w' (hw : Below w.heap.size w w') => rright_ok _ g w' (h.below hw))
 have HA := Lib.hid (fun w' (hw : Below w.heap.size w w') => rall_ok _ g w' (h.below hw))
 rw [(rightB_iff g).2 hR] at HN
 have hlen := allL_len hR
 have hsT := h.sT
 have hsS := h.sS
 have hll : (allL g).length ≤ 1000000 := by omega
 have hnn : nodesN g ≤ 1000000 := by rw [nodesN_right hR]; omega
 have hmem := fun e (he : e ∈ allL g) => (allL_mem hR he)
 have hnr := nodesN_right hR
 have HE := Lib.hid (fun out0 out => @pass_end g hR fr out0 out)
 have HM := Lib.hid (fun k (hk : k < (allL g).length) => show ∃ f t : Nat, ((allL g).getD k (0, 0, 0)).1 = (f : Int) ∧ ((allL g).getD k (0, 0, 0)).2.2 = (t : Int) ∧ f < nodesN g ∧ t < nodesN g from by
  have e : (allL g).getD k (0, 0, 0) = (allL g)[k] := by simp [List.getD, hk]
  have := hmem _ (List.getElem_mem hk)
  rw [e]
  exact ⟨(allL g)[k].1.toNat, (allL g)[k].2.2.toNat, by omega, by omega, by omega, by omega⟩)
 have X0 := Lib.hid (heap_alloc_new w (.cells #[.slice sa g.S.length sc, .slice aa g.A.length ac, .slice ta g.T.length tc] 30))
 have HB := Lib.hid hb
 have HF := Lib.hid hf
 obtain ⟨-, mk2⟩ := markAll_spec (nodesN g) fr
 have HK := Lib.hid mk2
 clear h hR hb hf hlen hsT hsS hmem hnr mk2
 generalize nodesN g = n at *
 go_enter Try.func35, Try.ntmps35
 go_wp2_with (first
  | (go_at_call 55; refine HNN.out.mono ?_; rintro e w1 ⟨rfl, hb1⟩; have d0 := bkeep hb1 (cell_of_block X0.out 0 _ rfl); have d1 := bkeep hb1 (cell_of_block X0.out 1 _ rfl); have d2 := bkeep hb1 (cell_of_block X0.out 2 _ rfl); have HX := Lib.hid (bheap hb1 X0.out); have HB1 := Lib.hid (HB.out.trans (hb1.mono HB.out.size)); have hs1 := hb1.size; clear hb1)
  | (go_at_call 50; refine (HN.out _ HB1.out).mono ?_; rintro e w2 ⟨rfl, hb2⟩; have HX2 := Lib.hid (bheap hb2 HX.out); have HB2 := Lib.hid (HB1.out.trans (hb2.mono HB1.out.size)); have hs2 := hb2.size; clear hb2 d0 d1 d2)
  | (at_make; refine wpList_make_one _ rfl (.tmp 16) (.tmp 16) 39 rfl 4 (.bool false) rfl 1 Try.underlying39 Try.info4 .i64 .i64 (n : Nat) (n : Nat) n rfl rfl rfl rfl (by omega) (by unfold maxLen; omega) ?_; intro w3 hh3 hb3 hlt3; have RS := Lib.hid (RrSt.mk (B := w2.heap.size) (out := List.replicate n false) (HB2.out.trans (hb3.mono HB2.out.size)) (by simp at hs1; omega) (bheap hb3 HX2.out) (by rw [bools_replicate]; exact hh3)); clear hh3 hb3 hlt3))
 go_loopg [7] fr.length (fun fu c wr => ∃ k : Nat, k + fu = fr.length ∧ c = .int .i64 k ∧ RrSt w wr #[.slice sa g.S.length sc, .slice aa g.A.length ac, .slice ta g.T.length tc] w2.heap.size (markAll n (fr.take k)))
 case atStart => exact ⟨0, by omega, rfl, by simpa [markAll] using RS.out⟩
 case round =>
  clear RS
  obtain ⟨k, hk, rfl, hS⟩ := hrel
  by_cases hlt : k < fr.length
  ·obtain ⟨b, off, rfl, d⟩ := HF.out k hlt
   have y := bkeep hS.below d
   have hstep := markAll_take n fr k hlt
   have hml := (markAll_spec n (fr.take k)).1
   have z : (k : Int) < (fr.length : Int) := by omega
   clear d
   generalize fr.getD k 0 = x at *
   by_cases t1 : x < 0
   ·have E := Lib.hid (hstep.trans (if_neg (by omega)))
    have HS := Lib.hid hS
    clear hS hstep
    go_wp2_with fail
    go_roundg (gk - 1)
    case measure => omega
    case rel => exact ⟨k + 1, by omega, by simp, by rw [E.out]; exact HS.out⟩
   by_cases t2 : (n : Int) ≤ x
   ·have E := Lib.hid (hstep.trans (if_neg (by omega)))
    have HS := Lib.hid hS
    have t3 : ¬ x < (n : Int) := by omega
    clear hS hstep
    go_wp2_with fail
    go_roundg (gk - 1)
    case measure => omega
    case rel => exact ⟨k + 1, by omega, by simp, by rw [E.out]; exact HS.out⟩
   ·obtain ⟨q, rfl⟩ : ∃ q : Nat, x = (q : Int) := ⟨x.toNat, by omega⟩
    have E := Lib.hid (hstep.trans (if_pos (by omega)))
    have hc := hS.cell q (by omega)
    have hfz := hS.free q
    have HS := Lib.hid (hS.set q)
    have b2 : (q : Int) < (n : Int) := by omega
    clear hS hstep
    generalize (markAll n (fr.take k)).getD q false = bq at *
    go_wp2_with fail
    go_roundg (gk - 1)
    case measure => omega
    case rel => exact ⟨k + 1, by omega, by simp, by rw [E.out]; exact HS.out⟩
  ·obtain rfl : gk = 0 := by omega
   obtain rfl : k = fr.length := by omega
   rw [List.take_length] at hS
   have HS := Lib.hid hS
   have a0 := cell_of_block hS.vg 0 _ rfl
   have a1 := cell_of_block hS.vg 1 _ rfl
   have a2 := cell_of_block hS.vg 2 _ rfl
   clear hS
   go_wp2_with (first
    | (go_at_call 30; refine (HA.out _ HS.out.below).mono ?_; rintro e w4 ⟨lv, rfl, hE, hb4⟩; have HS4 := Lib.hid (HS.out.more hb4); obtain ⟨la, lc, rfl, hl⟩ := hE; have HL := Lib.hid hl; clear hl hb4))
   have hms := (markAll_spec n fr).1
   have PS := Lib.hid (fun (out : List Bool) (hl : out.length = n) (hs : ∀ i, i < n → out.getD i false = true → Rch (allL g) (Src n fr) (i : Int)) => pass_start (l := allL g) hl hs)
   have hs0 : ∀ i, i < n → (markAll n fr).getD i false = true → Rch (allL g) (Src n fr) (i : Int) := fun i hi he => .base ⟨(HK.out i hi).1 he, by omega, by omega⟩
   have HS0 := Lib.hid hs0
   have HMS := Lib.hid hms
   clear hs0 hms a0 a1 a2 hlt hk
   generalize allL g = l at *
   have hllz : (l.length : Int) ≤ 1000000 := by omega
   go_loopg [9] (falses (markAll n fr) + 1) (fun fu m wr => ∃ (out : List Bool) (more : Bool), m = .bool more ∧ fu = (if more = true then falses out + 1 else 0) ∧ RrSt w wr #[.slice sa g.S.length sc, .slice aa g.A.length ac, .slice ta g.T.length tc] w2.heap.size out ∧ Frm (fun k => k = w2.heap.size) w4 wr ∧ out.length = n ∧
    (∀ i, i < n → out.getD i false = true → Rch l (Src n fr) (i : Int)) ∧ (∀ i : Nat, i < n → (i : Int) ∈ fr → out.getD i false = true) ∧ (more = false → out = reachL g fr))
   case atStart => exact ⟨_, true, rfl, by simp, HS4.out, Frm.refl _ _, HMS.out, HS0.out, fun i hi hm => (HK.out i hi).2 hm, fun h => by cases h⟩
   case round =>
    obtain ⟨out, more, rfl, hfu, hS, hfr, hlen, hsound, hsrc, hdone⟩ := hrel
    cases more
    ·have E := Lib.hid (hdone rfl)
     have HS := Lib.hid hS
     have HLN := Lib.hid hlen
     clear hfu hS hfr hlen hsound hsrc hdone
     go_wp2_with fail
     go_ret
     exact ⟨w2.heap.size, by have e : (reachL g fr).length = n := (by rw [← E.out, HLN.out]); rw [e]; rfl, by rw [← E.out]; exact HS.out.bo, Nat.le_of_lt HS.out.hB, HS.out.below⟩
    ·have HG := Lib.hid (show gk = falses out + 1 by simpa using hfu)
     have HS := Lib.hid hS
     have HFR := Lib.hid hfr
     have P0 := Lib.hid (PS.out out hlen hsound)
     have HSRC := Lib.hid hsrc
     clear hfu hS hfr hlen hsound hsrc hdone
     go_wp2_with fail
     obtain ⟨wr1, rfl⟩ : ∃ z : World, z = wr := ⟨_, rfl⟩
     obtain ⟨gk', rfl⟩ : ∃ z : Nat, z = gk := ⟨_, rfl⟩
     go_loopg [9, 10] l.length (fun fu m c wr => ∃ (r : Nat) (out' : List Bool) (more : Bool), r + fu = l.length ∧ m = .bool more ∧ c = .int .i64 r ∧ RrSt w wr #[.slice sa g.S.length sc, .slice aa g.A.length ac, .slice ta g.T.length tc] w2.heap.size out' ∧ Frm (fun k => k = w2.heap.size) w4 wr ∧ Pass n fr l out r out' more)
     case atStart => exact ⟨0, out, false, by omega, rfl, rfl, HS.out, HFR.out, P0.out⟩
     case round =>
      clear HS HFR P0
      obtain ⟨r, out', more, hr, rfl, rfl, hS, hfr, hP⟩ := hrel
      by_cases hlt : r < l.length
      ·obtain ⟨f, t, hf1, ht1, hfn, htn⟩ := HM.out r hlt
       obtain ⟨b, off, rfl, e1, e2, e3⟩ := HL.out r hlt
       have y1 := HS4.out.ints hfr e1
       have y3 := HS4.out.ints hfr e3
       have hol := hP.len
       have cf := hS.cell f (by omega)
       have ct := hS.cell t (by omega)
       have fz := hS.free t
       have z : (r : Int) < (l.length : Int) := by omega
       have zf : (f : Int) < (n : Int) := by omega
       have zt : (t : Int) < (n : Int) := by omega
       have hskip := Lib.hid (fun (hno : out'.getD f false = true → out'.getD t false = true) => hP.skip (r := r) (by rw [hf1, ht1]; simpa using hno))
       have hhit := Lib.hid (fun h1 h2 => hP.hit hlt hf1 ht1 hfn htn h1 h2)
       have HS := Lib.hid hS
       have HS1 := Lib.hid (hS.set t)
       have HFR := Lib.hid hfr
       have HFR1 := Lib.hid (hfr.setCell (p := ⟨w2.heap.size, t, none⟩) (fun _ => rfl) (.bool true))
       rw [hf1] at y1
       rw [ht1] at y3
       clear hf1 ht1 e1 e2 e3 hS hfr hP hol
       cases h1 : out'.getD f false
       ·have K := Lib.hid (hskip.out (fun h => by rw [h1] at h; cases h))
        rw [h1] at cf
        clear hskip hhit h1
        generalize out'.getD t false = bt at *
        go_wp2_with fail
        go_roundg (gk - 1)
        case measure => omega
        case rel => exact ⟨r + 1, out', more, by omega, rfl, by simp, HS.out, HFR.out, K.out⟩
       ·cases h2 : out'.getD t false
        ·have K := Lib.hid (hhit.out h1 h2)
         rw [h1] at cf
         rw [h2] at ct
         clear hskip hhit h1 h2
         go_wp2_with fail
         go_roundg (gk - 1)
         case measure => omega
         case rel => exact ⟨r + 1, out'.set t true, true, by omega, rfl, by simp, HS1.out, HFR1.out, K.out⟩
        ·have K := Lib.hid (hskip.out (fun _ => h2))
         rw [h1] at cf
         rw [h2] at ct
         clear hskip hhit h1 h2
         go_wp2_with fail
         go_roundg (gk - 1)
         case measure => omega
         case rel => exact ⟨r + 1, out', more, by omega, rfl, by simp, HS.out, HFR.out, K.out⟩
      ·obtain rfl : gk = 0 := by omega
       obtain rfl : r = l.length := by omega
       have hsrc2 : ∀ i : Nat, i < n → (i : Int) ∈ fr → out'.getD i false = true := fun i hi hm => hP.keep i (HSRC.out i hi hm)
       have hdone2 : more = false → out' = reachL g fr := fun e => HE.out out out' (e ▸ hP) HSRC.out
       have hless : more = true → falses out' < falses out := hP.less
       have HQ := Lib.hid (And.intro hS (And.intro hfr (And.intro hP.len (And.intro hP.sound (And.intro hsrc2 hdone2)))))
       have HLS := Lib.hid hless
       clear hS hfr hP hsrc2 hdone2 hless
       cases more
       ·go_wp2_with fail
        go_roundg 0
        case measure => have := HG.out; omega
        case rel => exact ⟨out', false, rfl, by simp, HQ.out.1, HQ.out.2.1, HQ.out.2.2.1, HQ.out.2.2.2.1, HQ.out.2.2.2.2.1, fun _ => HQ.out.2.2.2.2.2 trivial⟩
       ·go_wp2_with fail
        go_roundg (falses out' + 1)
        case measure => have := HG.out; have := HLS.out trivial; omega
        case rel => exact ⟨out', true, rfl, by simp, HQ.out.1, HQ.out.2.1, HQ.out.2.2.1, HQ.out.2.2.2.1, HQ.out.2.2.2.2.1, fun h => by cases h⟩
theorem rreach_right (v u : Value) (g : Gr) (fr : List Int) (w : World) (h : GraphAt w v g) (hu : IntsAt w u fr) (hR : Rt g) (hfl : fr.length ≤ 1000000) : Calls Try.prog 35 #[v, u] w (BoolsBack w (reachL g fr)) := by
 refine (rreach_new v u g fr w h hu hR hfl).mono ?_
 rintro e w' ⟨B, rfl, hh, -, hb⟩
 exact ⟨_, rfl, boolsAt_block hh rfl _, hb⟩
theorem rreach_ok (v u : Value) (g : Gr) (fr : List Int) (w : World) (h : GraphAt w v g) (hu : IntsAt w u fr) (hfl : fr.length ≤ 1000000) : Calls Try.prog 35 #[v, u] w (BoolsBack w (reachL g fr)) := by
 cases hr : rightB g
 ·rw [reachL_not hr]; exact rreach_not v u g w h hr
 ·exact rreach_right v u g fr w h hu ((rightB_iff g).1 hr) hfl
end Go.Proofs.Ytlhpjfnfemebdaa
