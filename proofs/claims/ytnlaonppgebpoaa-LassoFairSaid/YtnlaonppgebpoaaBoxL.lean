/-
  A boxed parameter; how long a circle is.
-/
import Derived.Test.YtnlaonppgebpoaaKnown19
namespace Go.Proofs.Ytnlaonppgebpoaa
open Go.RowKit

/-- a boxed parameter -/
structure BxL (w wr : World) (c : Array Value) (t : TypeId) : Prop where
  below : Below w.heap.size w wr
  blk : wr.heap[w.heap.size]? = some (.cells c t (0, 0))
theorem BxL.start (w : World) (c : Array Value) (t : TypeId) : BxL w (w.alloc (.cells c t)) c t := ⟨balloc w _, heap_alloc_new w _⟩
theorem BxL.more {w wr w' : World} {c : Array Value} {t : TypeId} (h : BxL w wr c t) (hb : Below wr.heap.size wr w') : BxL w w' c t := ⟨h.below.trans (hb.mono h.below.size), bheap hb h.blk⟩
theorem nodesN_le {g : Gr} : nodesN g ≤ g.S.length := by
  cases h : rightB g
  · rw [nodesN_not h]; omega
  · rw [nodesN_right ((rightB_iff g).1 h)]; omega
theorem walkG_len {g : Gr} {en : List (List Bool)} {ag mode : Int} {part : List Int} (hS : g.S.length ≤ 1000) (ho : OnceP g) : (walkG g en ag mode part).2.1.length ≤ 101000 ∧ (walkG g en ag mode part).2.2.length ≤ 101001 := by
  by_cases hg : goodB g en ag mode part = true
  · have e := goodB_nat hg
    have h := LP.of (by omega) ho (e ▸ hg)
    obtain ⟨h1, -, -, h2⟩ := walk_inv h (leastL_mem h.ne)
    have h3 := part_len h
    have h4 := nodesN_le (g := g)
    have h5 := h.hA
    have h6 : (ag.toNat + 1) * part.length ≤ 101 * 1000 := Nat.mul_le_mul (by omega) (by omega)
    have h7 := h1.len
    unfold walkG
    rw [if_pos hg]
    omega
  · unfold walkG
    rw [if_neg hg]; simp

end Go.Proofs.Ytnlaonppgebpoaa
