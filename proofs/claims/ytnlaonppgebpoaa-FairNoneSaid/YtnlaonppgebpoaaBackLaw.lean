/-
  Built of all its edges; back twice; all kept; none kept: no program in sight.
-/
import Derived.Test.YtnlaonppgebpoaaParts
import Derived.Test.YtnlaonppgebpoaaKeep2
import Derived.Test.YtnlaonppgebpoaaRReach
namespace Go.Proofs.Ytnlaonppgebpoaa
open Go.RowKit

theorem all_ok2 {g : Gr} (h : Rt g) (hn : g.S.length ≤ 100000) : buildOk (nodesN g : Nat) (allL g) = true := by
  have hnr := nodesN_right h
  refine buildOk_intro (by omega) ?_
  intro e he
  have := allL_mem h he
  omega
theorem build_all {g : Gr} (h : Rt g) (hn : g.S.length ≤ 100000) : buildG (nodesN g : Nat) (allL g) = g ∧ buildE (nodesN g : Nat) (allL g) = 0 := by
  have hb := all_ok2 h hn
  refine ⟨?_, by simp [buildE, hb]⟩
  rw [buildG_ok hb, nodesN_right h, csr_all h]
theorem back_len {g : Gr} (h : Rt g) (hn : g.S.length ≤ 100000) : (backG g).S.length ≤ 100000 := by
  rw [backG_csr h hn, csr_S_len, nodesN_right h]; have := h.ne; omega
theorem back2_right {g : Gr} (h : Rt g) (hn : g.S.length ≤ 100000) : Rt (backG (backG g)) := backG_right (backG_right h hn) (back_len h hn)
theorem back2_out {g : Gr} (h : Rt g) (hn : g.S.length ≤ 100000) {i : Nat} (hi : i < nodesN g) : (outL (backG (backG g)) i).length = (outL g i).length := by
  rw [back_out (backG_right h hn) (back_len h hn) (by rw [backG_nodes h hn]; exact hi), backG_csr h hn, countP_all_csr _ (swap_ok h hn), tellL_swap, List.countP_map, outL_eds h hi, ← outs_all h (by have := nodesN_right h; omega), outs, ← List.countP_eq_length_filter]
  rfl
theorem keep_all {g : Gr} (h : Rt g) (hn : g.S.length ≤ 100000) : keepG g (List.replicate (nodesN g) true) = g := by
  unfold keepG
  rw [madeG_right h]
  have e : tellL (keepE (List.replicate (nodesN g) true)) (allL g) = allL g := by
    unfold tellL
    rw [List.filter_eq_self.2]
    · simp [keepE]
    · intro e he
      have := allL_mem h he
      have hnr := nodesN_right h
      have k1 : inB (List.replicate (nodesN g) true) e.1 = true := by
        unfold inB; simp [List.getD, show e.1.toNat < nodesN g by omega]; omega
      have k2 : inB (List.replicate (nodesN g) true) e.2.2 = true := by
        unfold inB; simp [List.getD, show e.2.2.toNat < nodesN g by omega]; omega
      simp [keepE, k1, k2]
  rw [e]; exact (build_all h hn).1
theorem keep_none {g : Gr} (h : Rt g) (hn : g.S.length ≤ 100000) : allL (keepG g []) = [] := by
  unfold keepG
  rw [madeG_right h]
  have e : tellL (keepE []) (allL g) = [] := by
    unfold tellL
    rw [List.filter_eq_nil_iff.2]
    · rfl
    · intro e he
      have := allL_mem h he
      have k1 : inB [] e.1 = false := by unfold inB; simp
      simp [keepE, k1]
  have hb : buildOk (nodesN g : Nat) [] = true := buildOk_intro (by rw [nodesN_right h]; omega) (by simp)
  rw [e, buildG_ok hb, allL_csr hb]
  simp [outs]

/-- a block of truths holds no numbers -/
theorem GraphAt.offB {w w' : World} {v : Value} {g : Gr} {b : Nat} {out : List Bool} {t : TypeId} {fr : Nat × Nat} (h : GraphAt w v g) (hb : w.heap[b]? = some (.cells (bools out) t fr)) (hf : Frm (fun k => k = b) w w') : GraphAt w' v g := by
  have key : ∀ (p : Addr) (x : Int), w.cell? p = some (.int .i64 x) → w'.cell? p = some (.int .i64 x) := by
    intro p x hp
    refine hf.cell hp ?_
    intro e
    obtain ⟨blk, off, spot⟩ := p
    have e : blk = b := e
    subst e
    have hs := World.cell?_spot hp
    simp only at hs
    subst hs
    simp only [World.cell?, hb] at hp
    unfold bools at hp
    simp only [List.getElem?_toArray, List.getElem?_map] at hp
    cases hq : out[off]? <;> simp [hq] at hp
  obtain ⟨⟨s, a, t, rfl, ⟨sa, sc, rfl, h1⟩, ⟨aa, ac, rfl, h2⟩, ⟨ta, tc, rfl, h3⟩⟩, h4, h5, h6⟩ := h
  refine ⟨⟨_, _, _, rfl, ⟨sa, sc, rfl, ?_⟩, ⟨aa, ac, rfl, ?_⟩, ⟨ta, tc, rfl, ?_⟩⟩, h4, h5, h6⟩
  · intro j hj; obtain ⟨b', off, e, hc⟩ := h1 j hj; exact ⟨b', off, e, key _ _ hc⟩
  · intro j hj; obtain ⟨b', off, e, hc⟩ := h2 j hj; exact ⟨b', off, e, key _ _ hc⟩
  · intro j hj; obtain ⟨b', off, e, hc⟩ := h3 j hj; exact ⟨b', off, e, key _ _ hc⟩

/-- the law's variables: the graph, what was built, back twice; the row of truths -/
structure LbSt (w wr : World) (c1 c4 c6 : Array Value) (b4 b6 bk : Nat) (g B : Gr) (out : List Bool) : Prop where
  below : Below w.heap.size w wr
  l1 : wr.heap[w.heap.size]? = some (.cells c1 26 (0, 0))
  l4 : wr.heap[b4]? = some (.cells c4 26 (0, 0))
  l6 : wr.heap[b6]? = some (.cells c6 26 (0, 0))
  bo : wr.heap[bk]? = some (.cells (bools out) 4 (0, 0))
  g1 : GraphAt wr (.agg c1) g
  g4 : GraphAt wr (.agg c4) g
  g6 : GraphAt wr (.agg c6) B
  hbk : w.heap.size < bk
theorem LbSt.more {w wr w' : World} {c1 c4 c6 : Array Value} {b4 b6 bk : Nat} {g B : Gr} {out : List Bool} (h : LbSt w wr c1 c4 c6 b4 b6 bk g B out) (hb : Below wr.heap.size wr w') : LbSt w w' c1 c4 c6 b4 b6 bk g B out :=
  ⟨h.below.trans (hb.mono h.below.size), bheap hb h.l1, bheap hb h.l4, bheap hb h.l6, bheap hb h.bo, h.g1.below hb, h.g4.below hb, h.g6.below hb, h.hbk⟩
theorem LbSt.drew {w wr : World} {c1 c4 c6 : Array Value} {b4 b6 bk : Nat} {g B : Gr} {out : List Bool} (h : LbSt w wr c1 c4 c6 b4 b6 bk g B out) : LbSt w wr.drew c1 c4 c6 b4 b6 bk g B out :=
  ⟨h.below.drew, h.l1, h.l4, h.l6, h.bo, h.g1.drew, h.g4.drew, h.g6.drew, h.hbk⟩
theorem LbSt.set {w wr : World} {c1 c4 c6 : Array Value} {b4 b6 bk : Nat} {g B : Gr} {out : List Bool} (h : LbSt w wr c1 c4 c6 b4 b6 bk g B out) (k : Nat) : LbSt w (wr.setCell ⟨bk, k, none⟩ (.bool true)) c1 c4 c6 b4 b6 bk g B (out.set k true) := by
  have hf : Frm (fun q => q = bk) wr (wr.setCell ⟨bk, k, none⟩ (.bool true)) := (Frm.refl (fun q => q = bk) wr).setCell (p := ⟨bk, k, none⟩) (fun _ => rfl) _
  have hne : ∀ q c, wr.heap[q]? = some (.cells c 26 (0, 0)) → q ≠ bk := by
    intro q c hq e
    subst e
    rw [h.bo] at hq
    simp at hq
  have hb := h.hbk
  refine ⟨h.below.setCell (p := ⟨bk, k, none⟩) (by show w.heap.size ≤ bk; omega) _, hf.heap h.l1 (hne _ _ h.l1), hf.heap h.l4 (hne _ _ h.l4), hf.heap h.l6 (hne _ _ h.l6), ?_, h.g1.offB h.bo hf, h.g4.offB h.bo hf, h.g6.offB h.bo hf, hb⟩
  rw [heap_setCell_block h.bo, bools_set]
/-- all are marked -/
theorem all_true {out : List Bool} {n : Nat} (hl : out.length = n) (h : ∀ j, j < n → out.getD j false = true) : out = List.replicate n true := by
  apply List.ext_getElem?
  intro i
  by_cases hi : i < n
  · have := h i hi
    rw [List.getElem?_eq_getElem (by omega), List.getElem?_replicate, if_pos hi]
    simp [List.getD, show i < out.length by omega] at this
    rw [this]
  · rw [List.getElem?_eq_none (by omega), List.getElem?_replicate, if_neg hi]
end Go.Proofs.Ytnlaonppgebpoaa
