/-
  edges.made: the graph of a right one's edges, each as it is told, if it is told: over whatever closure that tells.
-/
import Derived.Test.YtnlaonppgebpoaaOut
import Derived.Test.YtnlaonppgebpoaaRBuild
namespace Go.Proofs.Ytnlaonppgebpoaa
open Go.RowKit

abbrev edV (e : Ed) : Value := .agg #[.int .i64 e.1, .int .i64 e.2.1, .int .i64 e.2.2]

/-- what a closure tells of an edge -/
structure Tell (M : Nat) (caps : Array Value) (w0 : World) (f : Ed → Ed × Bool) : Prop where
  enters : Enters Try.prog M
  ok : ∀ (e : Ed) (w' : World), 0 ≤ e.1 → 0 ≤ e.2.2 → Below w0.heap.size w0 w' → Calls Try.prog M (#[edV e] ++ caps) w' fun en w'' => en = .returned (.tuple #[edV (f e).1, .bool (f e).2]) ∧ Below w'.heap.size w' w''

theorem App.more {W : World} {lv : Nat} {l : List Ed} {w w' : World} (h : App W lv l w) (hb : Below w.heap.size w w') : App W lv l w' := by
  obtain ⟨v, h1, h2⟩ := h.own
  have hs := h.frm.size
  exact ⟨h.frm.trans (bfrm hb _), v, bheap hb h1, ownsRow_frm (F := fun _ => False) h2 (bfrm hb _) (fun _ _ => id)⟩

def tellL (f : Ed → Ed × Bool) (l : List Ed) : List Ed := (l.filter (fun e => (f e).2)).map (fun e => (f e).1)
theorem tellL_append (f : Ed → Ed × Bool) (l k : List Ed) : tellL f (l ++ k) = tellL f l ++ tellL f k := by simp [tellL]
theorem tellL_one (f : Ed → Ed × Bool) (e : Ed) : tellL f [e] = if (f e).2 = true then [(f e).1] else [] := by
  by_cases h : (f e).2 = true <;> simp [tellL, h]
theorem tellL_len (f : Ed → Ed × Bool) (l : List Ed) : (tellL f l).length ≤ l.length := by
  unfold tellL; rw [List.length_map]; exact (List.filter_sublist).length_le
def madeG (g : Gr) (f : Ed → Ed × Bool) : Gr := if rightB g = true then buildG (nodesN g : Nat) (tellL f (allL g)) else ⟨[], [], []⟩
theorem madeG_not {g : Gr} (h : rightB g = false) (f : Ed → Ed × Bool) : madeG g f = ⟨[], [], []⟩ := by unfold madeG; rw [h]; rfl
theorem madeG_right {g : Gr} (h : Rt g) (f : Ed → Ed × Bool) : madeG g f = buildG (nodesN g : Nat) (tellL f (allL g)) := by unfold madeG; rw [if_pos ((rightB_iff g).2 h)]

/-- what stands behind an append to it, one new block between -/
theorem app_step' {W : World} {lv : Nat} {l : List Ed} {w' : World} {v : Value} (hlv : lv < W.heap.size) (hf : Frm (fun k => k = lv) W w') (h1 : w'.heap[lv]? = some (.cells #[v] 22 (0, 0))) (h2 : w'.ownsRow W.heap.size 44 3 v l.length (edCells l))
    {o1 : Obj} {w4 : World} (hg : (w'.alloc o1).grownBy w4 v.ownBlock) : w4.cell? ⟨lv, 0, none⟩ = some v ∧ w4.frozen? ⟨lv, 0, none⟩ = false ∧ Frm (fun k => k = lv) W w4 ∧ w4.heap[lv]? = some (.cells #[v] 22 (0, 0)) := by
  have hne : ∀ k, v.ownBlock = some k → W.heap.size ≤ k := fun k hk => (h2.lt k hk).1
  have hlt : lv < w'.heap.size := (Array.getElem?_eq_some_iff.1 h1).1
  have h3 : (w'.alloc o1).heap[lv]? = some (.cells #[v] 22 (0, 0)) := bheap (balloc _ _) h1
  have h4 : w4.heap[lv]? = some (.cells #[v] 22 (0, 0)) := by
    rw [hg.block lv (by simp; omega) (fun e => by have := hne lv e.symm; omega)]; exact h3
  refine ⟨cell_of_block h4 0 _ rfl, free_of_block h4 0, ?_, h4⟩
  exact (hf.alloc o1).grown hg (fun k hk hlt => by have := hne k hk; omega)

set_option maxRecDepth 100000 in
set_option maxHeartbeats 4000000 in
theorem made1_ok (M : Nat) (caps : Array Value) (w0 : World) (f : Ed → Ed × Bool) (T : Tell M caps w0 f) (W : World) (lv tb : Nat) (l : List Ed) (e : Ed) (w : World) (hW : Below w0.heap.size w0 W) (hlv0 : w0.heap.size ≤ lv) (hlv : lv < W.heap.size)
    (htb : W.heap[tb]? = some (.cells #[.func (.func M) #[] caps] 75 (0, 0))) (hne0 : tb ≠ lv) (h : App W lv l w) (hl : l.length < 1000000) (he1 : 0 ≤ e.1) (he2 : 0 ≤ e.2.2) :
    Calls Try.prog 105 #[edV e, .pointer (some ⟨tb, 0, none⟩), .pointer (some ⟨lv, 0, none⟩)] w fun en w' => en = .returned (.tuple #[]) ∧ App W lv (l ++ tellL f [e]) w' := by
  obtain ⟨i0, hi0, hz0, hz1, hz2⟩ := info_parts Try.info44
  obtain ⟨x, y, z⟩ := e
  have hE' : ∀ (args : Array Value) (w : World), (callFunc M args).run Try.prog w = .ok (.enter M args) w := T.enters
  have hA := h.more (balloc w (.cells #[.int .i64 x, .int .i64 y, .int .i64 z] 44))
  have c0 := cell_of_block (hA.frm.heap htb hne0) 0 _ rfl
  have hsz := h.frm.size
  have hB0 : Below w0.heap.size w0 (w.alloc (.cells #[.int .i64 x, .int .i64 y, .int .i64 z] 44)) := hW.trans (hA.frm.below (fun k hk => by subst hk; exact hlv0) hW.size)
  have HT := Lib.hid (T.ok (x, y, z) _ he1 he2 hB0)
  have HA := Lib.hid hA
  rw [tellL_one]
  cases hf : (f (x, y, z)).2
  · rw [hf] at HT
    generalize (f (x, y, z)).1 = r at *
    obtain ⟨rx, ry, rz⟩ := r
    clear h hA hf htb
    go_enter Try.func105, Try.ntmps105
    go_wp2_with (go_at_fn M; refine HT.out.mono ?_; rintro en w1 ⟨rfl, hb1⟩)
    go_end0
    exact ⟨rfl, (HA.out.more hb1).more (balloc _ _)⟩
  · rw [hf] at HT
    generalize (f (x, y, z)).1 = r at *
    obtain ⟨rx, ry, rz⟩ := r
    clear h hA hf htb
    go_enter Try.func105, Try.ntmps105
    go_wp2_with (first
      | (go_at_fn M; refine HT.out.mono ?_; rintro en w1 ⟨rfl, hb1⟩; have hA1 := (HA.out.more hb1).more (balloc w1 (.cells #[.int .i64 rx, .int .i64 ry, .int .i64 rz] 44)); have hsz1 := hA1.frm.size; obtain ⟨v, h1, h2⟩ := hA1.own; have d0 := cell_of_block h1 0 _ rfl; have H1 := Lib.hid h1; have H2 := Lib.hid h2; have HF := Lib.hid hA1.frm; have hne : lv ≠ w1.heap.size := (by have := (HA.out.more hb1).frm.size; omega); clear h1 h2 hA1)
      | (at_builtin; refine wpList_append_lies ((w1.alloc (.cells #[.int .i64 rx, .int .i64 ry, .int .i64 rz] 44)).alloc (.cells #[.int .i64 rx, .int .i64 ry, .int .i64 rz] 44)) rfl (.tmp 13) (.tmp 15) 22 rfl W.heap.size 44 i0 (.agg #[.int .i64 0, .int .i64 0, .int .i64 0]) 3 24 Try.underlying22 hi0 hz0 hz1 hz2 rfl (by decide) v l.length (edCells l) rfl (H2.out.alloc _) ⟨w1.heap.size + 1, 0, none⟩ 1 1 [.int .i64 rx, .int .i64 ry, .int .i64 rz] rfl rfl (World.news_of_block (heap_alloc_at _ _ _ (by simp))) (by simp [Value.oneCell']) (by omega) (by unfold maxLen; omega) (by omega) (by simp at hsz1 ⊢; omega) (w1.heap.size + 1 + 1) (by simp) ?_; intro g2 cap2 w4 hown2 hgr2 hor2 hlt2; obtain ⟨q0, q1, q2, q3⟩ := app_step' hlv HF.out H1.out H2.out hgr2; have HO := Lib.hid hown2; clear hgr2 hown2))
    go_end0
    exact ⟨rfl, app_done (e := (rx, ry, rz)) hlv q2 q3 HO.out⟩

theorem each_made {M : Nat} {caps : Array Value} {w0 : World} {f : Ed → Ed × Bool} (T : Tell M caps w0 f) {g : Gr} {v : Value} {w2 : World} {lv tb : Nat} (hg : GraphAt w0 v g) (hR : Rt g) (hb : Below w0.heap.size w0 w2) (hlv : w0.heap.size ≤ lv) (hl2 : w2.heap[lv]? = some (.cells #[.slice none 0 0] 22 (0, 0)))
    (htb : w2.heap[tb]? = some (.cells #[.func (.func M) #[] caps] 75 (0, 0))) (hne : tb ≠ lv) :
    Calls Try.prog 73 #[v, .int .i64 0, .int .i64 (nodesN g : Nat), .func (.func 105) #[] #[.pointer (some ⟨tb, 0, none⟩), .pointer (some ⟨lv, 0, none⟩)]] w2 fun e w' => e = .returned (.tuple #[]) ∧
      ∃ v', w'.heap[lv]? = some (.cells #[v'] 22 (0, 0)) ∧ EdgesAt w' v' (tellL f (allL g)) ∧ Frm (fun k => k = lv) w2 w' := by
  have h4 := hg.sS
  have h6 := hg.sT
  have hE : Enters Try.prog 105 := enters_of Try.func105 (by kernel_rfl) rfl
  obtain ⟨sa, aa, ta, sc, ac, tc, rfl, -⟩ := hg.var
  have hlt : lv < w2.heap.size := (Array.getElem?_eq_some_iff.1 hl2).1
  have hbx := balloc w2 (.cells #[.slice sa g.S.length sc, .slice aa g.A.length ac, .slice ta g.T.length tc] 26)
  have hW : Below w0.heap.size w0 (w2.alloc (.cells #[.slice sa g.S.length sc, .slice aa g.A.length ac, .slice ta g.T.length tc] 26)) := hb.trans (hbx.mono hb.size)
  have hBel : ∀ (F : Nat → Prop) w', (∀ k, F k → w0.heap.size ≤ k) → Frm F (w2.alloc (.cells #[.slice sa g.S.length sc, .slice aa g.A.length ac, .slice ta g.T.length tc] 26)) w' → Below w0.heap.size w0 w' := fun F w' hF hf =>
    hW.trans (hf.below hF hW.size)
  have hn := nodesN_right hR
  have hne' := hR.ne
  have e0 : allL g = span g 0 (nodesN g) := by rw [allL_right hR, hn]
  rw [e0]
  have key := each_ok (sa := sa) (aa := aa) (ta := ta) (sc := sc) (ac := ac) (tc := tc) (w := w2) hR h4 h6 105 hE #[.pointer (some ⟨tb, 0, none⟩), .pointer (some ⟨lv, 0, none⟩)] 0 (nodesN g) (nodesN g : Nat) (by simp) (by omega)
    (fun pre w' => App (w2.alloc (.cells #[.slice sa g.S.length sc, .slice aa g.A.length ac, .slice ta g.T.length tc] 26)) lv (tellL f pre) w') ?_ ?_ ?_ ?_
  · refine key.mono ?_
    rintro e w' ⟨rfl, h⟩
    obtain ⟨hf, v', h1, h2⟩ := h
    exact ⟨rfl, v', h1, ownsRow_edges h2, (bfrm hbx _).trans hf⟩
  · intro pre w' h
    refine gvar_of hg (hBel _ w' (fun k hk => by subst hk; exact hlv) h.frm) ?_
    exact h.frm.heap (heap_alloc_new w2 _) (by show w2.heap.size ≠ lv; omega)
  · exact ⟨Frm.refl _ _, .slice none 0 0, bheap hbx hl2, ⟨rfl, .inl ⟨rfl, rfl⟩⟩⟩
  · exact fun pre w' h => h.drew
  · intro pre i k w' h hi1 hi2 hk1 hk2 hp
    have hst := hR.stTop (i := i + 1) (by omega)
    have htos := hR.tos k (by omega)
    have hlen := tellL_len f pre
    rw [tellL_append]
    exact made1_ok M caps w0 f T _ lv tb (tellL f pre) (edge g i k) w' hW hlv (by simp; omega) (bheap hbx htb) hne h (by omega) (by show 0 ≤ (i : Int); omega) htos.1

/-- a graph as a call hands it back -/
def GraphBack (w : World) (G : Gr) (e : Ending) (w' : World) : Prop := ∃ v, e = .returned v ∧ GraphAt w' v G ∧ Below w.heap.size w w'

/-- three slices stored into a variable -/
theorem ret3 {w : World} {b : Nat} {x0 y0 z0 : Value} {t : TypeId} (h : w.heap[b]? = some (.cells #[x0, y0, z0] t (0, 0))) (x y z : Value) :
    (((w.setCell ⟨b, 0, none⟩ x).setCell ⟨b, 1, none⟩ y).setCell ⟨b, 2, none⟩ z).cell? ⟨b, 0, none⟩ = some x ∧
    (((w.setCell ⟨b, 0, none⟩ x).setCell ⟨b, 1, none⟩ y).setCell ⟨b, 2, none⟩ z).cell? ⟨b, 1, none⟩ = some y ∧
    (((w.setCell ⟨b, 0, none⟩ x).setCell ⟨b, 1, none⟩ y).setCell ⟨b, 2, none⟩ z).cell? ⟨b, 2, none⟩ = some z ∧
    Frm (fun k => k = b) w (((w.setCell ⟨b, 0, none⟩ x).setCell ⟨b, 1, none⟩ y).setCell ⟨b, 2, none⟩ z) := by
  have e1 := heap_setCell_block h 0 x
  have e2 := heap_setCell_block e1 1 y
  have e3 := heap_setCell_block e2 2 z
  exact ⟨cell_of_block e3 0 _ rfl, cell_of_block e3 1 _ rfl, cell_of_block e3 2 _ rfl,
    (((Frm.refl (fun k => k = b) w).setCell (p := ⟨b, 0, none⟩) (fun _ => rfl) x).setCell (p := ⟨b, 1, none⟩) (fun _ => rfl) y).setCell (p := ⟨b, 2, none⟩) (fun _ => rfl) z⟩
/-- a block of slices holds no numbers -/
theorem GraphAt.off {w w' : World} {v : Value} {g : Gr} {b : Nat} {a1 a2 a3 : Option Addr} {n1 n2 n3 c1 c2 c3 : Nat} {t : TypeId} {fr : Nat × Nat} (h : GraphAt w v g) (hb : w.heap[b]? = some (.cells #[.slice a1 n1 c1, .slice a2 n2 c2, .slice a3 n3 c3] t fr)) (hf : Frm (fun k => k = b) w w') : GraphAt w' v g := by
  have key : ∀ (p : Addr) (x : Int), w.cell? p = some (.int .i64 x) → w'.cell? p = some (.int .i64 x) := by
    intro p x hp
    refine hf.cell hp ?_
    intro e
    obtain ⟨blk, off, spot⟩ := p
    have e : blk = b := e
    subst e
    have hs := World.cell?_spot hp
    simp only at hs
    subst hs
    simp only [World.cell?, hb] at hp
    rcases off with _ | _ | _ | off <;> simp at hp
  obtain ⟨⟨s, a, t, rfl, ⟨sa, sc, rfl, h1⟩, ⟨aa, ac, rfl, h2⟩, ⟨ta, tc, rfl, h3⟩⟩, h4, h5, h6⟩ := h
  refine ⟨⟨_, _, _, rfl, ⟨sa, sc, rfl, ?_⟩, ⟨aa, ac, rfl, ?_⟩, ⟨ta, tc, rfl, ?_⟩⟩, h4, h5, h6⟩
  · intro j hj; obtain ⟨b', off, e, hc⟩ := h1 j hj; exact ⟨b', off, e, key _ _ hc⟩
  · intro j hj; obtain ⟨b', off, e, hc⟩ := h2 j hj; exact ⟨b', off, e, key _ _ hc⟩
  · intro j hj; obtain ⟨b', off, e, hc⟩ := h3 j hj; exact ⟨b', off, e, key _ _ hc⟩
end Go.Proofs.Ytnlaonppgebpoaa
