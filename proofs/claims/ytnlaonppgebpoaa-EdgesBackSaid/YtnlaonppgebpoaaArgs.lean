/-
  A law's arguments, read.
-/
import Derived.Test.YtnlaonppgebpoaaOpen
namespace Go.Proofs.Ytnlaonppgebpoaa
open Go.RowKit Go.ChangeShapes Go.WideShapes Go.Deep

section
variable {H : Type} {enc : TypeId × Value → H} {W : World} {r : Reach} {b0 base : Nat}
set_option maxRecDepth 100000 in
theorem arg_edges {sp : Nat → Bool} {held : Bool} {v : Value} {d : DataW H} {p : List MemPlace} (hval : Value.okWide Try.prog W r b0 22 v) (h : DataW.Trod enc Try.prog W base sp held 22 v d p) : ∃ l, EdgesAt W v l ∧ l.length ≤ 9223372036854775807 := by
  obtain ⟨a0, len, cap, rfl⟩ := okWide_slice Try.underlying22 hval
  obtain ⟨fuel, hf⟩ := h
  obtain ⟨v', l, e, hE, hl⟩ := edges_open hf
  simp only [Value.cells, List.cons.injEq, and_true] at e
  subst e
  exact ⟨l, hE, hl⟩
set_option maxRecDepth 100000 in
theorem arg_ints {sp : Nat → Bool} {held : Bool} {v : Value} {d : DataW H} {p : List MemPlace} (hval : Value.okWide Try.prog W r b0 24 v) (h : DataW.Trod enc Try.prog W base sp held 24 v d p) : ∃ l, IntsAt W v l ∧ l.length ≤ 9223372036854775807 ∧ ∀ x ∈ l, -9223372036854775808 ≤ x ∧ x ≤ 9223372036854775807 := by
  obtain ⟨a0, len, cap, rfl⟩ := okWide_slice Try.underlying24 hval
  obtain ⟨fuel, hf⟩ := h
  obtain ⟨v', l, e, hE, hl, hb⟩ := ints_open hf
  simp only [Value.cells, List.cons.injEq, and_true] at e
  subst e
  exact ⟨l, hE, hl, hb⟩
set_option maxRecDepth 100000 in
theorem arg_cap {sp : Nat → Bool} {held : Bool} {v : Value} {d : DataW H} {p : List MemPlace} (hval : Value.okWide Try.prog W r b0 24 v) (h : DataW.Trod enc Try.prog W base sp held 24 v d p) : ∃ a len cap, v = .slice a len cap ∧ len ≤ cap ∧ cap ≤ 9223372036854775807 ∧ (a = none → cap = 0) := by
  obtain ⟨a0, len, cap, rfl⟩ := okWide_slice Try.underlying24 hval
  obtain ⟨fuel, hf⟩ := h
  obtain ⟨a, l, c, e, h1, h2⟩ := ints_open_cap hf
  simp only [Value.cells, List.cons.injEq, and_true] at e
  exact ⟨a, l, c, e, h1, h2⟩
set_option maxRecDepth 100000 in
theorem arg_bools {held : Bool} {v : Value} {d : DataW H} {p : List MemPlace} (hval : Value.okWide Try.prog W r b0 33 v) (h : DataW.Trod enc Try.prog W base (fun _ => true) held 33 v d p) : ∃ l, BoolsAt W v l ∧ l.length ≤ 9223372036854775807 := by
  obtain ⟨a0, len, cap, rfl⟩ := okWide_slice Try.underlying33 hval
  obtain ⟨fuel, hf⟩ := h
  obtain ⟨v', l, e, hE, hl⟩ := bools_open hf
  simp only [Value.cells, List.cons.injEq, and_true] at e
  subst e
  exact ⟨l, hE, hl⟩
/-- a graph of whatever size -/
structure GraphArg (w : World) (v : Value) (g : Gr) : Prop where
  ex : ∃ s a t, v = .agg #[s, a, t] ∧ IntsAt w s g.S ∧ IntsAt w a g.A ∧ IntsAt w t g.T
  sS : g.S.length ≤ 9223372036854775807
  sA : g.A.length ≤ 9223372036854775807
  sT : g.T.length ≤ 9223372036854775807
set_option maxRecDepth 100000 in
theorem arg_graph {sp : Nat → Bool} {held : Bool} {v : Value} {d : DataW H} {p : List MemPlace} (hval : Value.okWide Try.prog W r b0 26 v) (h : DataW.Trod enc Try.prog W base sp held 26 v d p) : ∃ g, GraphArg W v g := by
  obtain ⟨cs, hv, hsz⟩ := okWide_struct Try.underlying26 hval
  obtain ⟨fuel, hf⟩ := h
  rw [cellsOf26] at hsz
  obtain ⟨s, a, t, g, e, h1, h2, h3, m1, m2, m3, -⟩ := graph_open ⟨cs, hv, hsz⟩ hf
  exact ⟨g, ⟨s, a, t, e, h1, h2, h3⟩, m1, m2, m3⟩
theorem GraphArg.small {w : World} {v : Value} {g : Gr} (h : GraphArg w v g) (h1 : g.S.length ≤ 1000000) (h2 : g.A.length ≤ 1000000) (h3 : g.T.length ≤ 1000000) : GraphAt w v g := ⟨h.ex, h1, h2, h3⟩
theorem GraphArg.light {w : World} {v : Value} {g : Gr} (h : GraphArg w v g) : Calls Try.prog 25 #[v] w fun e w' => e = .returned (.bool (lit3 g.S.length g.T.length g.A.length)) ∧ Below w.heap.size w w' := by
  obtain ⟨⟨s, a, t, rfl, ⟨sa, sc, rfl, -⟩, ⟨aa, ac, rfl, -⟩, ⟨ta, tc, rfl, -⟩⟩, h1, h2, h3⟩ := h
  exact light_ok sa aa ta g.S.length sc g.A.length ac g.T.length tc w h1 h2 h3
theorem GraphArg.var {w : World} {v : Value} {g : Gr} (h : GraphArg w v g) : ∃ sa aa ta sc ac tc, v = .agg #[.slice sa g.S.length sc, .slice aa g.A.length ac, .slice ta g.T.length tc] := by
  obtain ⟨⟨s, a, t, rfl, ⟨sa, sc, rfl, -⟩, ⟨aa, ac, rfl, -⟩, ⟨ta, tc, rfl, -⟩⟩, h1, h2, h3⟩ := h
  exact ⟨sa, aa, ta, sc, ac, tc, rfl⟩
theorem GraphArg.below {w w' : World} {v : Value} {g : Gr} (h : GraphArg w v g) (hb : Below w.heap.size w w') : GraphArg w' v g :=
  let ⟨⟨s, a, t, e, h1, h2, h3⟩, h4, h5, h6⟩ := h
  ⟨⟨s, a, t, e, h1.below hb, h2.below hb, h3.below hb⟩, h4, h5, h6⟩
theorem GraphArg.at {w : World} {v : Value} {g : Gr} (h : GraphArg w v g) (hl : lit3 g.S.length g.T.length g.A.length = true) : GraphAt w v g := by
  obtain ⟨a, b, c⟩ := lit3_spec hl
  exact h.small (by omega) (by omega) (by omega)
end
end Go.Proofs.Ytnlaonppgebpoaa
