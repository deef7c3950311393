/-
  Built of all its edges; back twice; all kept; none kept: no program in sight. SccOrder, SccBack: plain.
-/
import Derived.Test.YtnlaonppgebpoaaMade2
import Derived.Test.YtnlaonppgebpoaaKeep2
import Derived.Test.YtnlaonppgebpoaaRReach
import Derived.Test.YtnlaonppgebpoaaSccLaw
import Derived.Test.YtnlaonppgebpoaaCyclic
namespace Go.Proofs.Ytnlaonppgebpoaa
open Go.RowKit

theorem all_ok2 {g : Gr} (h : Rt g) (hn : g.S.length ≤ 100000) : buildOk (nodesN g : Nat) (allL g) = true := by
  have hnr := nodesN_right h
  refine buildOk_intro (by omega) ?_
  intro e he
  have := allL_mem h he
  omega
theorem build_all {g : Gr} (h : Rt g) (hn : g.S.length ≤ 100000) : buildG (nodesN g : Nat) (allL g) = g ∧ buildE (nodesN g : Nat) (allL g) = 0 := by
  have hb := all_ok2 h hn
  refine ⟨?_, by simp [buildE, hb]⟩
  rw [buildG_ok hb, nodesN_right h, csr_all h]
theorem back_len {g : Gr} (h : Rt g) (hn : g.S.length ≤ 100000) : (backG g).S.length ≤ 100000 := by
  rw [backG_csr h hn, csr_S_len, nodesN_right h]; have := h.ne; omega
theorem back2_right {g : Gr} (h : Rt g) (hn : g.S.length ≤ 100000) : Rt (backG (backG g)) := backG_right (backG_right h hn) (back_len h hn)
theorem back2_out {g : Gr} (h : Rt g) (hn : g.S.length ≤ 100000) {i : Nat} (hi : i < nodesN g) : (outL (backG (backG g)) i).length = (outL g i).length := by
  rw [back_out (backG_right h hn) (back_len h hn) (by rw [backG_nodes h hn]; exact hi), backG_csr h hn, countP_all_csr _ (swap_ok h hn), tellL_swap, List.countP_map, outL_eds h hi, ← outs_all h (by have := nodesN_right h; omega), outs, ← List.countP_eq_length_filter]
  rfl
theorem keep_all {g : Gr} (h : Rt g) (hn : g.S.length ≤ 100000) : keepG g (List.replicate (nodesN g) true) = g := by
  unfold keepG
  rw [madeG_right h]
  have e : tellL (keepE (List.replicate (nodesN g) true)) (allL g) = allL g := by
    unfold tellL
    rw [List.filter_eq_self.2]
    · simp [keepE]
    · intro e he
      have := allL_mem h he
      have hnr := nodesN_right h
      have k1 : inB (List.replicate (nodesN g) true) e.1 = true := by
        unfold inB; simp [List.getD, show e.1.toNat < nodesN g by omega]; omega
      have k2 : inB (List.replicate (nodesN g) true) e.2.2 = true := by
        unfold inB; simp [List.getD, show e.2.2.toNat < nodesN g by omega]; omega
      simp [keepE, k1, k2]
  rw [e]; exact (build_all h hn).1
theorem keep_none {g : Gr} (h : Rt g) (hn : g.S.length ≤ 100000) : allL (keepG g []) = [] := by
  unfold keepG
  rw [madeG_right h]
  have e : tellL (keepE []) (allL g) = [] := by
    unfold tellL
    rw [List.filter_eq_nil_iff.2]
    · rfl
    · intro e he
      have := allL_mem h he
      have k1 : inB [] e.1 = false := by unfold inB; simp
      simp [keepE, k1]
  have hb : buildOk (nodesN g : Nat) [] = true := buildOk_intro (by rw [nodesN_right h]; omega) (by simp)
  rw [e, buildG_ok hb, allL_csr hb]
  simp [outs]

/-- a block of truths holds no numbers -/
theorem GraphAt.offB {w w' : World} {v : Value} {g : Gr} {b : Nat} {out : List Bool} {t : TypeId} {fr : Nat × Nat} (h : GraphAt w v g) (hb : w.heap[b]? = some (.cells (bools out) t fr)) (hf : Frm (fun k => k = b) w w') : GraphAt w' v g := by
  have key : ∀ (p : Addr) (x : Int), w.cell? p = some (.int .i64 x) → w'.cell? p = some (.int .i64 x) := by
    intro p x hp
    refine hf.cell hp ?_
    intro e
    obtain ⟨blk, off, spot⟩ := p
    have e : blk = b := e
    subst e
    have hs := World.cell?_spot hp
    simp only at hs
    subst hs
    simp only [World.cell?, hb] at hp
    unfold bools at hp
    simp only [List.getElem?_toArray, List.getElem?_map] at hp
    cases hq : out[off]? <;> simp [hq] at hp
  obtain ⟨⟨s, a, t, rfl, ⟨sa, sc, rfl, h1⟩, ⟨aa, ac, rfl, h2⟩, ⟨ta, tc, rfl, h3⟩⟩, h4, h5, h6⟩ := h
  refine ⟨⟨_, _, _, rfl, ⟨sa, sc, rfl, ?_⟩, ⟨aa, ac, rfl, ?_⟩, ⟨ta, tc, rfl, ?_⟩⟩, h4, h5, h6⟩
  · intro j hj; obtain ⟨b', off, e, hc⟩ := h1 j hj; exact ⟨b', off, e, key _ _ hc⟩
  · intro j hj; obtain ⟨b', off, e, hc⟩ := h2 j hj; exact ⟨b', off, e, key _ _ hc⟩
  · intro j hj; obtain ⟨b', off, e, hc⟩ := h3 j hj; exact ⟨b', off, e, key _ _ hc⟩

/-- the law's variables: the graph, what was built, back twice; the row of truths -/
structure LbSt (w wr : World) (c1 c4 c6 : Array Value) (b4 b6 bk : Nat) (g B : Gr) (out : List Bool) : Prop where
  below : Below w.heap.size w wr
  l1 : wr.heap[w.heap.size]? = some (.cells c1 26 (0, 0))
  l4 : wr.heap[b4]? = some (.cells c4 26 (0, 0))
  l6 : wr.heap[b6]? = some (.cells c6 26 (0, 0))
  bo : wr.heap[bk]? = some (.cells (bools out) 4 (0, 0))
  g1 : GraphAt wr (.agg c1) g
  g4 : GraphAt wr (.agg c4) g
  g6 : GraphAt wr (.agg c6) B
  hbk : w.heap.size < bk
theorem LbSt.more {w wr w' : World} {c1 c4 c6 : Array Value} {b4 b6 bk : Nat} {g B : Gr} {out : List Bool} (h : LbSt w wr c1 c4 c6 b4 b6 bk g B out) (hb : Below wr.heap.size wr w') : LbSt w w' c1 c4 c6 b4 b6 bk g B out :=
  ⟨h.below.trans (hb.mono h.below.size), bheap hb h.l1, bheap hb h.l4, bheap hb h.l6, bheap hb h.bo, h.g1.below hb, h.g4.below hb, h.g6.below hb, h.hbk⟩
theorem LbSt.drew {w wr : World} {c1 c4 c6 : Array Value} {b4 b6 bk : Nat} {g B : Gr} {out : List Bool} (h : LbSt w wr c1 c4 c6 b4 b6 bk g B out) : LbSt w wr.drew c1 c4 c6 b4 b6 bk g B out :=
  ⟨h.below.drew, h.l1, h.l4, h.l6, h.bo, h.g1.drew, h.g4.drew, h.g6.drew, h.hbk⟩
theorem LbSt.set {w wr : World} {c1 c4 c6 : Array Value} {b4 b6 bk : Nat} {g B : Gr} {out : List Bool} (h : LbSt w wr c1 c4 c6 b4 b6 bk g B out) (k : Nat) : LbSt w (wr.setCell ⟨bk, k, none⟩ (.bool true)) c1 c4 c6 b4 b6 bk g B (out.set k true) := by
  have hf : Frm (fun q => q = bk) wr (wr.setCell ⟨bk, k, none⟩ (.bool true)) := (Frm.refl (fun q => q = bk) wr).setCell (p := ⟨bk, k, none⟩) (fun _ => rfl) _
  have hne : ∀ q c, wr.heap[q]? = some (.cells c 26 (0, 0)) → q ≠ bk := by
    intro q c hq e
    subst e
    rw [h.bo] at hq
    simp at hq
  have hb := h.hbk
  refine ⟨h.below.setCell (p := ⟨bk, k, none⟩) (by show w.heap.size ≤ bk; omega) _, hf.heap h.l1 (hne _ _ h.l1), hf.heap h.l4 (hne _ _ h.l4), hf.heap h.l6 (hne _ _ h.l6), ?_, h.g1.offB h.bo hf, h.g4.offB h.bo hf, h.g6.offB h.bo hf, hb⟩
  rw [heap_setCell_block h.bo, bools_set]
/-- all are marked -/
theorem all_true {out : List Bool} {n : Nat} (hl : out.length = n) (h : ∀ j, j < n → out.getD j false = true) : out = List.replicate n true := by
  apply List.ext_getElem?
  intro i
  by_cases hi : i < n
  · have := h i hi
    rw [List.getElem?_eq_getElem (by omega), List.getElem?_replicate, if_pos hi]
    simp [List.getD, show i < out.length by omega] at this
    rw [this]
  · rw [List.getElem?_eq_none (by omega), List.getElem?_replicate, if_neg hi]
end Go.Proofs.Ytnlaonppgebpoaa

namespace Go.Proofs.Ytnlaonppgebpoaa

/-- the number of parts among the first i nodes -/
noncomputable def nextN (g : Gr) (i : Nat) : Nat := (cnS (eqB (scF g)) i).2
theorem next_step (g : Gr) (i : Nat) : partN g i ≤ nextN g i ∧ nextN g (i + 1) = if partN g i = nextN g i then nextN g i + 1 else nextN g i := by
  unfold partN nextN
  rcases e : (List.range i).find? (fun k => eqB (scF g) i k) with _ | k
  · rw [cnS_next_none e, cnV_none e]; simp
  · have hk := (eqB_some e).1
    have := cnV_lt (eqB (scF g)) i k hk
    rw [cnS_next_some e, cnV_some e]
    exact ⟨by omega, by rw [if_neg (by omega)]⟩
theorem firsts_next (g : Gr) : ∀ n, (firsts (partN g) (fun _ => true) n).length = nextN g n
  | 0 => rfl
  | n + 1 => by
    rw [firsts_succ, List.length_append, firsts_next g n]
    obtain ⟨h1, h2⟩ := next_step g n
    rw [h2]
    have hi : isF (partN g) (fun _ => true) n = true ↔ partN g n = nextN g n := by
      rw [isF_iff]
      unfold partN nextN
      rcases e : (List.range n).find? (fun k => eqB (scF g) n k) with _ | k
      · rw [cnV_none e]
        have := eqB_none.1 e
        simp only [true_and, true_implies, iff_true]
        intro k hk h
        rw [← cnV_none e] at h
        exact this k hk ((cnV_eq (n + 1) k n (by omega) (by omega)).1 h).symm
      · have hk := eqB_some e
        have hlt := cnV_lt (eqB (scF g)) n k hk.1
        rw [cnV_some e]
        simp only [true_and, true_implies]
        constructor
        · intro h; exact absurd rfl (h k hk.1)
        · intro h; omega
    by_cases h : partN g n = nextN g n
    · rw [if_pos h, if_pos (hi.2 h)]; rfl
    · rw [if_neg h, if_neg (fun q => h (hi.1 q))]; rfl
theorem groups_len (g : Gr) : (groupsI g).length = nextN g (nodesN g) := by
  unfold groupsI grpI
  rw [rowsI_len, partsI_len]
  have e1 : grp (fun k => (partsI g).getD k 0) (fun _ => true) (nodesN g) = grp (partN g) (fun _ => true) (nodesN g) := grp_same (fun i j hi hj => by
    show (partsI g).getD i 0 = (partsI g).getD j 0 ↔ _
    rw [partsI_get hi, partsI_get hj]; exact ⟨fun h => by omega, fun h => by rw [h]⟩) (fun _ _ => rfl)
  rw [e1]
  unfold grp
  rw [List.length_map, firsts_next]
/-- an edge's two ends: alike just if it goes back -/
theorem order_edge {g : Gr} (h : Rt g) {e : Ed} (he : e ∈ allL g) : ∃ a b : Nat, e.1 = (a : Int) ∧ e.2.2 = (b : Int) ∧ a < nodesN g ∧ b < nodesN g ∧ (reachL g [(b : Int)]).getD a false = decide (partN g a = partN g b) := by
  have hm := allL_mem h he
  have hn := nodesN_right h
  refine ⟨e.1.toNat, e.2.2.toNat, by omega, by omega, by omega, by omega, ?_⟩
  have hE : Eg g e.1.toNat e.2.2.toNat := ⟨e, he, by omega, by omega⟩
  have key : (reachL g [((e.2.2.toNat : Nat) : Int)]).getD e.1.toNat false = true ↔ partN g e.1.toNat = partN g e.2.2.toNat := by
    rw [reach_pth h (by omega) (by omega), partN_eq]
    exact ⟨fun q => ⟨.one hE, q⟩, fun q => q.2⟩
  by_cases hp : partN g e.1.toNat = partN g e.2.2.toNat
  · rw [decide_eq_true hp]; exact key.2 hp
  · rw [decide_eq_false hp]
    cases hx : (reachL g [((e.2.2.toNat : Nat) : Int)]).getD e.1.toNat false
    · rfl
    · exact absurd (key.1 hx) hp
/-! ### the other way round; one edge more -/
theorem partsI_same {g g' : Gr} (hn : nodesN g' = nodesN g) (h : ∀ i k, i < nodesN g → k < i → (SC g' i k ↔ SC g i k)) : partsI g' = partsI g := by
  have e : (cnS (eqB (scF g)) (nodesN g')).1 = partsL g' := partsL_congr fun i k hi hk => by
    rw [h i k (by omega) hk, ← scF_iff]
    unfold eqB
    exact decide_eq_true_iff
  unfold partsI
  rw [← e, hn]
  rfl
theorem pth_rev {E E' : Nat → Nat → Prop} (h : ∀ a b, E a b → E' b a) {a b : Nat} (hp : Pth E a b) : Pth E' b a := by
  induction hp with
  | refl => exact .refl _
  | step _ he ih => exact (Pth.one (h _ _ he)).trans ih
theorem pth_mono {E E' : Nat → Nat → Prop} (h : ∀ a b, E a b → Pth E' a b) {a b : Nat} (hp : Pth E a b) : Pth E' a b := by
  induction hp with
  | refl => exact .refl _
  | step _ he ih => exact ih.trans (h _ _ he)
theorem eg_back {g : Gr} (h : Rt g) (hn : g.S.length ≤ 100000) (a b : Nat) : Eg (backG g) a b ↔ Eg g b a := by
  unfold Eg
  rw [backG_csr h hn]
  constructor
  · rintro ⟨e, he, h1, h2⟩
    have he2 := (mem_all_csr (swap_ok h hn) e).1 he
    rw [tellL_swap] at he2
    obtain ⟨e', he3, he4⟩ := List.mem_map.1 he2
    subst he4
    exact ⟨e', he3, h2, h1⟩
  · rintro ⟨e, he, h1, h2⟩
    refine ⟨(e.2.2, e.2.1, e.1), (mem_all_csr (swap_ok h hn) _).2 ?_, h2, h1⟩
    rw [tellL_swap]; exact List.mem_map.2 ⟨e, he, rfl⟩
theorem back_parts {g : Gr} (h : Rt g) (hn : g.S.length ≤ 100000) : partsI (backG g) = partsI g := by
  refine partsI_same (backG_nodes h hn) fun i k _ _ => ?_
  have f : ∀ a b, Pth (Eg (backG g)) a b → Pth (Eg g) b a := fun a b hp => pth_rev (fun x y he => (eg_back h hn x y).1 he) hp
  have f' : ∀ a b, Pth (Eg g) a b → Pth (Eg (backG g)) b a := fun a b hp => pth_rev (fun x y he => (eg_back h hn y x).2 he) hp
  exact ⟨fun q => ⟨f _ _ q.2, f _ _ q.1⟩, fun q => ⟨f' _ _ q.2, f' _ _ q.1⟩⟩
def addL (g : Gr) (f t : Nat) : List Ed := allL g ++ [((f : Int), 0, (t : Int))]
theorem add_ok {g : Gr} (h : Rt g) (hn : g.S.length ≤ 100000) {f t : Nat} (hf : f < nodesN g) (ht : t < nodesN g) : buildOk (nodesN g : Nat) (addL g f t) = true := by
  have hnn := nodesN_right h
  refine buildOk_intro (by omega) fun e he => ?_
  rcases List.mem_append.1 he with he | he
  · have := allL_mem h he; omega
  · obtain rfl := List.mem_singleton.1 he
    simp; omega
theorem eg_add {g : Gr} (h : Rt g) (hn : g.S.length ≤ 100000) {f t : Nat} (hf : f < nodesN g) (ht : t < nodesN g) (a b : Nat) : Eg (csr (nodesN g) (addL g f t)) a b ↔ Eg g a b ∨ (a = f ∧ b = t) := by
  unfold Eg
  constructor
  · rintro ⟨e, he, h1, h2⟩
    rcases List.mem_append.1 ((mem_all_csr (add_ok h hn hf ht) e).1 he) with he | he
    · exact .inl ⟨e, he, h1, h2⟩
    · obtain rfl := List.mem_singleton.1 he
      exact .inr ⟨by have : (f : Int) = a := h1; omega, by have : (t : Int) = b := h2; omega⟩
  · rintro (⟨e, he, h1, h2⟩ | ⟨rfl, rfl⟩)
    · exact ⟨e, (mem_all_csr (add_ok h hn hf ht) e).2 (List.mem_append_left _ he), h1, h2⟩
    · exact ⟨_, (mem_all_csr (add_ok h hn hf ht) _).2 (List.mem_append_right _ (List.mem_singleton.2 rfl)), rfl, rfl⟩
theorem add_parts {g : Gr} (h : Rt g) (hn : g.S.length ≤ 100000) {f t : Nat} (hf : f < nodesN g) (ht : t < nodesN g) (hs : SC g f t) : partsI (csr (nodesN g) (addL g f t)) = partsI g := by
  refine partsI_same (csr_nodes (add_ok h hn hf ht)) fun i k _ _ => ?_
  have f1 : ∀ a b, Pth (Eg (csr (nodesN g) (addL g f t))) a b → Pth (Eg g) a b := fun a b hp => pth_mono (fun x y he => by
    rcases (eg_add h hn hf ht x y).1 he with he | ⟨rfl, rfl⟩
    · exact .one he
    · exact hs.1) hp
  have f2 : ∀ a b, Pth (Eg g) a b → Pth (Eg (csr (nodesN g) (addL g f t))) a b := fun a b hp => pth_mono (fun x y he => .one ((eg_add h hn hf ht x y).2 (.inl he))) hp
  exact ⟨fun q => ⟨f1 _ _ q.1, f1 _ _ q.2⟩, fun q => ⟨f2 _ _ q.1, f2 _ _ q.2⟩⟩
theorem add_cyc {g : Gr} (h : Rt g) (hn : g.S.length ≤ 100000) {f t : Nat} (hf : f < nodesN g) (ht : t < nodesN g) {r : List Int} (h1 : (f : Int) ∈ r) (h2 : (t : Int) ∈ r) : cycB (csr (nodesN g) (addL g f t)) r = true := by
  unfold cycB
  exact decide_eq_true ⟨((f : Int), 0, (t : Int)), (mem_all_csr (add_ok h hn hf ht) _).2 (by simp [addL]), h1, h2⟩
/-- a row of the groups: not empty, its nodes in one part -/
theorem groups_row {g : Gr} {j : Nat} (hj : j < (groupsI g).length) : 0 < ((groupsI g).getD j []).length ∧ ∃ p, ∀ x ∈ (groupsI g).getD j [], ∃ a : Nat, x = (a : Int) ∧ a < nodesN g ∧ partN g a = p := by
  have e1 : groupsI g = rowsI (grp (partN g) (fun _ => true) (nodesN g)) := by
    unfold groupsI grpI
    rw [partsI_len]
    congr 1
    exact grp_same (fun i j hi hj => by
      show (partsI g).getD i 0 = (partsI g).getD j 0 ↔ _
      rw [partsI_get hi, partsI_get hj]; exact ⟨fun h => by omega, fun h => by rw [h]⟩) (fun _ _ => rfl)
  rw [e1] at hj ⊢
  unfold rowsI grp at hj ⊢
  simp only [List.length_map] at hj
  have hm := List.getElem_mem hj
  have hm2 := mem_firsts.1 hm
  have e2 : (((firsts (partN g) (fun _ => true) (nodesN g)).map (fun j => rowOf (partN g) (fun _ => true) (nodesN g) (partN g j))).map (fun r => r.map (fun k : Nat => (k : Int)))).getD j [] = (rowOf (partN g) (fun _ => true) (nodesN g) (partN g (firsts (partN g) (fun _ => true) (nodesN g))[j])).map (fun k : Nat => (k : Int)) := by
    simp [List.getD_eq_getElem?_getD, hj]
  rw [e2]
  constructor
  · rw [List.length_map]
    exact List.length_pos_of_mem (mem_rowOf.2 ⟨hm2.1, rfl, rfl⟩)
  · refine ⟨partN g (firsts (partN g) (fun _ => true) (nodesN g))[j], fun x hx => ?_⟩
    obtain ⟨a, ha, rfl⟩ := List.mem_map.1 hx
    obtain ⟨h1, -, h3⟩ := mem_rowOf.1 ha
    exact ⟨a, rfl, h1, h3⟩
end Go.Proofs.Ytnlaonppgebpoaa
