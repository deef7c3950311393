/-
  The laws' arguments, opened: numbers, truths, edges, a graph. A law's arguments, read.
-/
import Derived.Test.YtnlaonppgebpoaaLaw
import Derived.Test.YtnlaonppgebpoaaBase
import Derived.Test.YtnlaonppgebpoaaCmp
import Derived.Deep.Grids
import Derived.Deep.Strs
namespace Go.Proofs.Ytnlaonppgebpoaa
open Go.RowKit Go.ChangeShapes Go.WideShapes Go.Deep

theorem cells_at {w : World} {a : Addr} {n : Nat} {f : Nat → Value} (h : ∀ i, i < n → w.cell? (a.add i) = some (f i)) (hp : 0 < n) :
    ∃ b off, a = ⟨b, off, none⟩ ∧ ∀ j, j < n → w.cell? ⟨b, off + j, none⟩ = some (f j) := by
  obtain ⟨b, off, spot⟩ := a
  have hspot : spot = none := by simpa [Addr.add] using World.cell?_spot (h 0 hp)
  subst hspot
  exact ⟨b, off, rfl, fun j hj => by rw [← Go.WideShapes.add_plain]; exact h j hj⟩

theorem list_len3 {α : Type} {l : List α} (h : l.length = 3) : ∃ a b c, l = [a, b, c] := by
  match l, h with
  | [a, b, c], _ => exact ⟨a, b, c, rfl⟩
theorem cellsOf3 : Try.prog.cellsOf 3 = 1 := by kernel_rfl
theorem cellsOf4 : Try.prog.cellsOf 4 = 1 := by kernel_rfl
theorem cellsOf44 : Try.prog.cellsOf 44 = 3 := by kernel_rfl
theorem cellsOf24 : Try.prog.cellsOf 24 = 1 := by kernel_rfl
theorem cellsOf26 : Try.prog.cellsOf 26 = 3 := by kernel_rfl

section
variable {H : Type} {enc : TypeId × Value → H} {w : World} {base : Nat}

theorem ints_open {sp : Nat → Bool} {held : Bool} {fuel : Nat} {cs : List Value} {x : DataW H × List MemPlace} (h : DataW.trod enc Try.prog w base sp held fuel 24 cs = some x) :
    ∃ v l, cs = [v] ∧ IntsAt w v l ∧ l.length ≤ maxLen ∧ ∀ x ∈ l, -9223372036854775808 ≤ x ∧ x ≤ 9223372036854775807 := by
  rcases open_ints Try.underlying24 Try.underlying3 cellsOf3 h with ⟨rfl, -⟩ | ⟨a, len, cap, zs, rfl, _, hlc, hm, hz, -, hc, hwf⟩
  · exact ⟨_, [], rfl, intsAt_nil w, by simp, by simp⟩
  · have hsl : len ≤ zs.length := by rw [hz]; split <;> omega
    have htl : (zs.take len).length = len := by simp; omega
    refine ⟨_, zs.take len, rfl, ⟨some a, cap, by rw [htl], ?_⟩, by rw [htl]; omega, fun x hx => by have := hwf x (List.mem_of_mem_take hx); simp [Lit.wf] at this; exact this⟩
    intro j hj
    rw [htl] at hj
    obtain ⟨b, off, rfl, hc'⟩ := cells_at (n := len) (f := fun i => .int .i64 (zs.getD i 0)) (fun i hi => hc i (by omega)) (by omega)
    refine ⟨b, off, rfl, ?_⟩
    rw [hc' j hj]
    simp [List.getD, hj]

theorem ints_open_cap {sp : Nat → Bool} {held : Bool} {fuel : Nat} {cs : List Value} {x : DataW H × List MemPlace} (h : DataW.trod enc Try.prog w base sp held fuel 24 cs = some x) :
    ∃ a len cap, cs = [.slice a len cap] ∧ len ≤ cap ∧ cap ≤ maxLen ∧ (a = none → cap = 0) := by
  rcases open_ints Try.underlying24 Try.underlying3 cellsOf3 h with ⟨rfl, -⟩ | ⟨a, len, cap, zs, rfl, _, hlc, hm, -⟩
  · exact ⟨_, _, _, rfl, Nat.le_refl _, by unfold maxLen; omega, fun _ => rfl⟩
  · exact ⟨_, _, _, rfl, hlc, hm, fun e => by cases e⟩

theorem bools_open {held : Bool} {fuel : Nat} {cs : List Value} {x : DataW H × List MemPlace} (h : DataW.trod enc Try.prog w base (fun _ => true) held fuel 33 cs = some x) :
    ∃ v l, cs = [v] ∧ BoolsAt w v l ∧ l.length ≤ maxLen := by
  rcases open_bools Try.underlying33 Try.underlying4 cellsOf4 h with ⟨rfl, -⟩ | ⟨a, len, cap, B, rfl, _, hlc, hm, -, hc⟩
  · exact ⟨_, [], rfl, boolsAt_nil w, by simp⟩
  · have htl : ((List.range len).map B).length = len := by simp
    refine ⟨_, (List.range len).map B, rfl, ⟨some a, cap, by rw [htl], ?_⟩, by rw [htl]; omega⟩
    intro j hj
    rw [htl] at hj
    obtain ⟨b, off, rfl, hc'⟩ := cells_at (n := len) (f := fun i => .bool (B i)) (fun i hi => hc i (by omega)) (by omega)
    refine ⟨b, off, rfl, ?_⟩
    rw [hc' j hj]
    simp [List.getD, hj]

theorem edges_open {sp : Nat → Bool} {held : Bool} {fuel : Nat} {cs : List Value} {x : DataW H × List MemPlace} (h : DataW.trod enc Try.prog w base sp held fuel 22 cs = some x) :
    ∃ v l, cs = [v] ∧ EdgesAt w v l ∧ l.length ≤ maxLen := by
  rcases open_slice Try.underlying22 h with ⟨rfl, -⟩ | ⟨a, len, cap, m, n, D, Pl, rfl, _, hlc, hm, hmm, -, hx⟩
  · exact ⟨_, [], rfl, edgesAt_nil w, by simp⟩
  · rw [cellsOf44] at hx
    have hlm : len ≤ m := by rw [hmm]; split <;> omega
    obtain ⟨F, hF⟩ := choose_lt (α := Ed) (n := m) (p := fun i e => w.cell? (a.add (i * 3)) = some (.int .i64 e.1) ∧ w.cell? (a.add (i * 3 + 1)) = some (.int .i64 e.2.1) ∧ w.cell? (a.add (i * 3 + 2)) = some (.int .i64 e.2.2)) (fun i hi => by
      obtain ⟨cs', h1, h2⟩ := hx i hi
      obtain ⟨_, hlen, hcell⟩ := World.cells?_some h1
      obtain ⟨y0, y1, y2, n', -, hl, g0, g1, g2⟩ := trod_struct3 Try.underlying44 h2
      clear hl
      obtain ⟨c0, c1, c2, rfl⟩ := list_len3 hlen
      obtain ⟨x0, e0, -⟩ := DataW.trod_int Try.underlying3 (by simpa [cellsOf3] using g0)
      obtain ⟨x1, e1, -⟩ := DataW.trod_int Try.underlying3 (by simpa [cellsOf3] using g1)
      obtain ⟨x2, e2, -⟩ := DataW.trod_int Try.underlying3 (by simpa [cellsOf3] using g2)
      simp only [List.cons.injEq, and_true] at e0 e1 e2
      have q0 := hcell 0 (by omega)
      have q1 := hcell 1 (by omega)
      have q2 := hcell 2 (by omega)
      rw [add_add] at q0 q1 q2
      refine ⟨(x0, x1, x2), ?_, ?_, ?_⟩
      · simpa [e0] using q0
      · simpa [e1] using q1
      · simpa [e2] using q2)
    have htl : ((List.range len).map F).length = len := by simp
    refine ⟨_, (List.range len).map F, rfl, ⟨some a, cap, by rw [htl], ?_⟩, by rw [htl]; omega⟩
    intro j hj
    rw [htl] at hj
    obtain ⟨b, off, spot⟩ := a
    have hspot : spot = none := by simpa [Addr.add] using World.cell?_spot (hF 0 (by omega)).1
    subst hspot
    obtain ⟨f0, f1, f2⟩ := hF j (by omega)
    rw [Go.WideShapes.add_plain] at f0 f1 f2
    have e : ((List.range len).map F).getD j (0, 0, 0) = F j := by simp [List.getD, hj]
    refine ⟨b, off, rfl, ?_, ?_, ?_⟩
    · rw [e]; exact f0
    · rw [e]; exact f1
    · rw [e]; exact f2

/-- a graph, its rows of whatever lengths -/
theorem graph_open {sp : Nat → Bool} {held : Bool} {v : Value} {fuel : Nat} {x : DataW H × List MemPlace} (hv : ∃ cs, v = .agg cs ∧ cs.size = 3) (h : DataW.trod enc Try.prog w base sp held fuel 26 v.cells.toList = some x) :
    ∃ (s a t : Value) (g : Gr), v = .agg #[s, a, t] ∧ IntsAt w s g.S ∧ IntsAt w a g.A ∧ IntsAt w t g.T ∧ g.S.length ≤ maxLen ∧ g.A.length ≤ maxLen ∧ g.T.length ≤ maxLen ∧
      (∀ x ∈ g.A, x ≤ 9223372036854775807) := by
  obtain ⟨cs, rfl, hsz⟩ := hv
  obtain ⟨s, a, t, rfl⟩ : ∃ s a t, cs = #[s, a, t] := by
    match cs, hsz with
    | ⟨[s, a, t]⟩, _ => exact ⟨s, a, t, rfl⟩
  obtain ⟨y0, y1, y2, n', -, hl, g0, g1, g2⟩ := trod_struct3 Try.underlying26 h
  obtain ⟨v0, l0, e0, i0, m0, -⟩ := ints_open (by simpa [cellsOf24, Value.cells] using g0)
  obtain ⟨v1, l1, e1, i1, m1, b1⟩ := ints_open (by simpa [cellsOf24, Value.cells] using g1)
  obtain ⟨v2, l2, e2, i2, m2, -⟩ := ints_open (by simpa [cellsOf24, Value.cells] using g2)
  simp only [List.cons.injEq, and_true] at e0 e1 e2
  subst e0 e1 e2
  exact ⟨_, _, _, ⟨l0, l1, l2⟩, rfl, i0, i1, i2, m0, m1, m2, fun x hx => (b1 x hx).2⟩
end
end Go.Proofs.Ytnlaonppgebpoaa

namespace Go.Proofs.Ytnlaonppgebpoaa
open Go.RowKit Go.ChangeShapes Go.WideShapes Go.Deep

section
variable {H : Type} {enc : TypeId × Value → H} {W : World} {r : Reach} {b0 base : Nat}
set_option maxRecDepth 100000 in
theorem arg_edges {sp : Nat → Bool} {held : Bool} {v : Value} {d : DataW H} {p : List MemPlace} (hval : Value.okWide Try.prog W r b0 22 v) (h : DataW.Trod enc Try.prog W base sp held 22 v d p) : ∃ l, EdgesAt W v l ∧ l.length ≤ 9223372036854775807 := by
  obtain ⟨a0, len, cap, rfl⟩ := okWide_slice Try.underlying22 hval
  obtain ⟨fuel, hf⟩ := h
  obtain ⟨v', l, e, hE, hl⟩ := edges_open hf
  simp only [Value.cells, List.cons.injEq, and_true] at e
  subst e
  exact ⟨l, hE, hl⟩
set_option maxRecDepth 100000 in
theorem arg_ints {sp : Nat → Bool} {held : Bool} {v : Value} {d : DataW H} {p : List MemPlace} (hval : Value.okWide Try.prog W r b0 24 v) (h : DataW.Trod enc Try.prog W base sp held 24 v d p) : ∃ l, IntsAt W v l ∧ l.length ≤ 9223372036854775807 ∧ ∀ x ∈ l, -9223372036854775808 ≤ x ∧ x ≤ 9223372036854775807 := by
  obtain ⟨a0, len, cap, rfl⟩ := okWide_slice Try.underlying24 hval
  obtain ⟨fuel, hf⟩ := h
  obtain ⟨v', l, e, hE, hl, hb⟩ := ints_open hf
  simp only [Value.cells, List.cons.injEq, and_true] at e
  subst e
  exact ⟨l, hE, hl, hb⟩
set_option maxRecDepth 100000 in
theorem arg_cap {sp : Nat → Bool} {held : Bool} {v : Value} {d : DataW H} {p : List MemPlace} (hval : Value.okWide Try.prog W r b0 24 v) (h : DataW.Trod enc Try.prog W base sp held 24 v d p) : ∃ a len cap, v = .slice a len cap ∧ len ≤ cap ∧ cap ≤ 9223372036854775807 ∧ (a = none → cap = 0) := by
  obtain ⟨a0, len, cap, rfl⟩ := okWide_slice Try.underlying24 hval
  obtain ⟨fuel, hf⟩ := h
  obtain ⟨a, l, c, e, h1, h2⟩ := ints_open_cap hf
  simp only [Value.cells, List.cons.injEq, and_true] at e
  exact ⟨a, l, c, e, h1, h2⟩
set_option maxRecDepth 100000 in
theorem arg_bools {held : Bool} {v : Value} {d : DataW H} {p : List MemPlace} (hval : Value.okWide Try.prog W r b0 33 v) (h : DataW.Trod enc Try.prog W base (fun _ => true) held 33 v d p) : ∃ l, BoolsAt W v l ∧ l.length ≤ 9223372036854775807 := by
  obtain ⟨a0, len, cap, rfl⟩ := okWide_slice Try.underlying33 hval
  obtain ⟨fuel, hf⟩ := h
  obtain ⟨v', l, e, hE, hl⟩ := bools_open hf
  simp only [Value.cells, List.cons.injEq, and_true] at e
  subst e
  exact ⟨l, hE, hl⟩
/-- a graph of whatever size -/
structure GraphArg (w : World) (v : Value) (g : Gr) : Prop where
  ex : ∃ s a t, v = .agg #[s, a, t] ∧ IntsAt w s g.S ∧ IntsAt w a g.A ∧ IntsAt w t g.T
  sS : g.S.length ≤ 9223372036854775807
  sA : g.A.length ≤ 9223372036854775807
  sT : g.T.length ≤ 9223372036854775807
set_option maxRecDepth 100000 in
theorem arg_graph {sp : Nat → Bool} {held : Bool} {v : Value} {d : DataW H} {p : List MemPlace} (hval : Value.okWide Try.prog W r b0 26 v) (h : DataW.Trod enc Try.prog W base sp held 26 v d p) : ∃ g, GraphArg W v g := by
  obtain ⟨cs, hv, hsz⟩ := okWide_struct Try.underlying26 hval
  obtain ⟨fuel, hf⟩ := h
  rw [cellsOf26] at hsz
  obtain ⟨s, a, t, g, e, h1, h2, h3, m1, m2, m3, -⟩ := graph_open ⟨cs, hv, hsz⟩ hf
  exact ⟨g, ⟨s, a, t, e, h1, h2, h3⟩, m1, m2, m3⟩
theorem GraphArg.small {w : World} {v : Value} {g : Gr} (h : GraphArg w v g) (h1 : g.S.length ≤ 1000000) (h2 : g.A.length ≤ 1000000) (h3 : g.T.length ≤ 1000000) : GraphAt w v g := ⟨h.ex, h1, h2, h3⟩
theorem GraphArg.light {w : World} {v : Value} {g : Gr} (h : GraphArg w v g) : Calls Try.prog 25 #[v] w fun e w' => e = .returned (.bool (lit3 g.S.length g.T.length g.A.length)) ∧ Below w.heap.size w w' := by
  obtain ⟨⟨s, a, t, rfl, ⟨sa, sc, rfl, -⟩, ⟨aa, ac, rfl, -⟩, ⟨ta, tc, rfl, -⟩⟩, h1, h2, h3⟩ := h
  exact light_ok sa aa ta g.S.length sc g.A.length ac g.T.length tc w h1 h2 h3
theorem GraphArg.var {w : World} {v : Value} {g : Gr} (h : GraphArg w v g) : ∃ sa aa ta sc ac tc, v = .agg #[.slice sa g.S.length sc, .slice aa g.A.length ac, .slice ta g.T.length tc] := by
  obtain ⟨⟨s, a, t, rfl, ⟨sa, sc, rfl, -⟩, ⟨aa, ac, rfl, -⟩, ⟨ta, tc, rfl, -⟩⟩, h1, h2, h3⟩ := h
  exact ⟨sa, aa, ta, sc, ac, tc, rfl⟩
theorem GraphArg.below {w w' : World} {v : Value} {g : Gr} (h : GraphArg w v g) (hb : Below w.heap.size w w') : GraphArg w' v g :=
  let ⟨⟨s, a, t, e, h1, h2, h3⟩, h4, h5, h6⟩ := h
  ⟨⟨s, a, t, e, h1.below hb, h2.below hb, h3.below hb⟩, h4, h5, h6⟩
theorem GraphArg.at {w : World} {v : Value} {g : Gr} (h : GraphArg w v g) (hl : lit3 g.S.length g.T.length g.A.length = true) : GraphAt w v g := by
  obtain ⟨a, b, c⟩ := lit3_spec hl
  exact h.small (by omega) (by omega) (by omega)
end
end Go.Proofs.Ytnlaonppgebpoaa
