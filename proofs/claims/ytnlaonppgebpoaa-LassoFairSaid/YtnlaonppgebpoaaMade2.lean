/-
  edges.made: the graph of a right one's edges, each as it is told, if it is told: over whatever closure that tells. edges.made: the walk. edges.Back, edges.Keep. The graph the other way round: how many edges: no program in sight.
-/
import Derived.Test.YtnlaonppgebpoaaOut
import Derived.Test.YtnlaonppgebpoaaRBuild
import Derived.Deep.RegionWith
import Derived.Deep.DeepCutAuto
namespace Go.Proofs.Ytnlaonppgebpoaa
open Go.RowKit

abbrev edV (e : Ed) : Value := .agg #[.int .i64 e.1, .int .i64 e.2.1, .int .i64 e.2.2]

/-- what a closure tells of an edge -/
structure Tell (M : Nat) (caps : Array Value) (w0 : World) (f : Ed → Ed × Bool) : Prop where
  enters : Enters Try.prog M
  ok : ∀ (e : Ed) (w' : World), 0 ≤ e.1 → 0 ≤ e.2.2 → Below w0.heap.size w0 w' → Calls Try.prog M (#[edV e] ++ caps) w' fun en w'' => en = .returned (.tuple #[edV (f e).1, .bool (f e).2]) ∧ Below w'.heap.size w' w''

theorem App.more {W : World} {lv : Nat} {l : List Ed} {w w' : World} (h : App W lv l w) (hb : Below w.heap.size w w') : App W lv l w' := by
  obtain ⟨v, h1, h2⟩ := h.own
  have hs := h.frm.size
  exact ⟨h.frm.trans (bfrm hb _), v, bheap hb h1, ownsRow_frm (F := fun _ => False) h2 (bfrm hb _) (fun _ _ => id)⟩

def tellL (f : Ed → Ed × Bool) (l : List Ed) : List Ed := (l.filter (fun e => (f e).2)).map (fun e => (f e).1)
theorem tellL_append (f : Ed → Ed × Bool) (l k : List Ed) : tellL f (l ++ k) = tellL f l ++ tellL f k := by simp [tellL]
theorem tellL_one (f : Ed → Ed × Bool) (e : Ed) : tellL f [e] = if (f e).2 = true then [(f e).1] else [] := by
  by_cases h : (f e).2 = true <;> simp [tellL, h]
theorem tellL_len (f : Ed → Ed × Bool) (l : List Ed) : (tellL f l).length ≤ l.length := by
  unfold tellL; rw [List.length_map]; exact (List.filter_sublist).length_le
def madeG (g : Gr) (f : Ed → Ed × Bool) : Gr := if rightB g = true then buildG (nodesN g : Nat) (tellL f (allL g)) else ⟨[], [], []⟩
theorem madeG_not {g : Gr} (h : rightB g = false) (f : Ed → Ed × Bool) : madeG g f = ⟨[], [], []⟩ := by unfold madeG; rw [h]; rfl
theorem madeG_right {g : Gr} (h : Rt g) (f : Ed → Ed × Bool) : madeG g f = buildG (nodesN g : Nat) (tellL f (allL g)) := by unfold madeG; rw [if_pos ((rightB_iff g).2 h)]

/-- what stands behind an append to it, one new block between -/
theorem app_step' {W : World} {lv : Nat} {l : List Ed} {w' : World} {v : Value} (hlv : lv < W.heap.size) (hf : Frm (fun k => k = lv) W w') (h1 : w'.heap[lv]? = some (.cells #[v] 22 (0, 0))) (h2 : w'.ownsRow W.heap.size 44 3 v l.length (edCells l))
    {o1 : Obj} {w4 : World} (hg : (w'.alloc o1).grownBy w4 v.ownBlock) : w4.cell? ⟨lv, 0, none⟩ = some v ∧ w4.frozen? ⟨lv, 0, none⟩ = false ∧ Frm (fun k => k = lv) W w4 ∧ w4.heap[lv]? = some (.cells #[v] 22 (0, 0)) := by
  have hne : ∀ k, v.ownBlock = some k → W.heap.size ≤ k := fun k hk => (h2.lt k hk).1
  have hlt : lv < w'.heap.size := (Array.getElem?_eq_some_iff.1 h1).1
  have h3 : (w'.alloc o1).heap[lv]? = some (.cells #[v] 22 (0, 0)) := bheap (balloc _ _) h1
  have h4 : w4.heap[lv]? = some (.cells #[v] 22 (0, 0)) := by
    rw [hg.block lv (by simp; omega) (fun e => by have := hne lv e.symm; omega)]; exact h3
  refine ⟨cell_of_block h4 0 _ rfl, free_of_block h4 0, ?_, h4⟩
  exact (hf.alloc o1).grown hg (fun k hk hlt => by have := hne k hk; omega)

set_option maxRecDepth 100000 in
set_option maxHeartbeats 4000000 in
theorem made1_ok (M : Nat) (caps : Array Value) (w0 : World) (f : Ed → Ed × Bool) (T : Tell M caps w0 f) (W : World) (lv tb : Nat) (l : List Ed) (e : Ed) (w : World) (hW : Below w0.heap.size w0 W) (hlv0 : w0.heap.size ≤ lv) (hlv : lv < W.heap.size)
    (htb : W.heap[tb]? = some (.cells #[.func (.func M) #[] caps] 75 (0, 0))) (hne0 : tb ≠ lv) (h : App W lv l w) (hl : l.length < 1000000) (he1 : 0 ≤ e.1) (he2 : 0 ≤ e.2.2) :
    Calls Try.prog 105 #[edV e, .pointer (some ⟨tb, 0, none⟩), .pointer (some ⟨lv, 0, none⟩)] w fun en w' => en = .returned (.tuple #[]) ∧ App W lv (l ++ tellL f [e]) w' := by
  obtain ⟨i0, hi0, hz0, hz1, hz2⟩ := info_parts Try.info44
  obtain ⟨x, y, z⟩ := e
  have hE' : ∀ (args : Array Value) (w : World), (callFunc M args).run Try.prog w = .ok (.enter M args) w := T.enters
  have hA := h.more (balloc w (.cells #[.int .i64 x, .int .i64 y, .int .i64 z] 44))
  have c0 := cell_of_block (hA.frm.heap htb hne0) 0 _ rfl
  have hsz := h.frm.size
  have hB0 : Below w0.heap.size w0 (w.alloc (.cells #[.int .i64 x, .int .i64 y, .int .i64 z] 44)) := hW.trans (hA.frm.below (fun k hk => by subst hk; exact hlv0) hW.size)
  have HT := Lib.hid (T.ok (x, y, z) _ he1 he2 hB0)
  have HA := Lib.hid hA
  rw [tellL_one]
  cases hf : (f (x, y, z)).2
  · rw [hf] at HT
    generalize (f (x, y, z)).1 = r at *
    obtain ⟨rx, ry, rz⟩ := r
    clear h hA hf htb
    go_enter Try.func105, Try.ntmps105
    go_wp2_with (go_at_fn M; refine HT.out.mono ?_; rintro en w1 ⟨rfl, hb1⟩)
    go_end0
    exact ⟨rfl, (HA.out.more hb1).more (balloc _ _)⟩
  · rw [hf] at HT
    generalize (f (x, y, z)).1 = r at *
    obtain ⟨rx, ry, rz⟩ := r
    clear h hA hf htb
    go_enter Try.func105, Try.ntmps105
    go_wp2_with (first
      | (go_at_fn M; refine HT.out.mono ?_; rintro en w1 ⟨rfl, hb1⟩; have hA1 := (HA.out.more hb1).more (balloc w1 (.cells #[.int .i64 rx, .int .i64 ry, .int .i64 rz] 44)); have hsz1 := hA1.frm.size; obtain ⟨v, h1, h2⟩ := hA1.own; have d0 := cell_of_block h1 0 _ rfl; have H1 := Lib.hid h1; have H2 := Lib.hid h2; have HF := Lib.hid hA1.frm; have hne : lv ≠ w1.heap.size := (by have := (HA.out.more hb1).frm.size; omega); clear h1 h2 hA1)
      | (at_builtin; refine wpList_append_lies ((w1.alloc (.cells #[.int .i64 rx, .int .i64 ry, .int .i64 rz] 44)).alloc (.cells #[.int .i64 rx, .int .i64 ry, .int .i64 rz] 44)) rfl (.tmp 13) (.tmp 15) 22 rfl W.heap.size 44 i0 (.agg #[.int .i64 0, .int .i64 0, .int .i64 0]) 3 24 Try.underlying22 hi0 hz0 hz1 hz2 rfl (by decide) v l.length (edCells l) rfl (H2.out.alloc _) ⟨w1.heap.size + 1, 0, none⟩ 1 1 [.int .i64 rx, .int .i64 ry, .int .i64 rz] rfl rfl (World.news_of_block (heap_alloc_at _ _ _ (by simp))) (by simp [Value.oneCell']) (by omega) (by unfold maxLen; omega) (by omega) (by simp at hsz1 ⊢; omega) (w1.heap.size + 1 + 1) (by simp) ?_; intro g2 cap2 w4 hown2 hgr2 hor2 hlt2; obtain ⟨q0, q1, q2, q3⟩ := app_step' hlv HF.out H1.out H2.out hgr2; have HO := Lib.hid hown2; clear hgr2 hown2))
    go_end0
    exact ⟨rfl, app_done (e := (rx, ry, rz)) hlv q2 q3 HO.out⟩

theorem each_made {M : Nat} {caps : Array Value} {w0 : World} {f : Ed → Ed × Bool} (T : Tell M caps w0 f) {g : Gr} {v : Value} {w2 : World} {lv tb : Nat} (hg : GraphAt w0 v g) (hR : Rt g) (hb : Below w0.heap.size w0 w2) (hlv : w0.heap.size ≤ lv) (hl2 : w2.heap[lv]? = some (.cells #[.slice none 0 0] 22 (0, 0)))
    (htb : w2.heap[tb]? = some (.cells #[.func (.func M) #[] caps] 75 (0, 0))) (hne : tb ≠ lv) :
    Calls Try.prog 73 #[v, .int .i64 0, .int .i64 (nodesN g : Nat), .func (.func 105) #[] #[.pointer (some ⟨tb, 0, none⟩), .pointer (some ⟨lv, 0, none⟩)]] w2 fun e w' => e = .returned (.tuple #[]) ∧
      ∃ v', w'.heap[lv]? = some (.cells #[v'] 22 (0, 0)) ∧ EdgesAt w' v' (tellL f (allL g)) ∧ Frm (fun k => k = lv) w2 w' := by
  have h4 := hg.sS
  have h6 := hg.sT
  have hE : Enters Try.prog 105 := enters_of Try.func105 (by kernel_rfl) rfl
  obtain ⟨sa, aa, ta, sc, ac, tc, rfl, -⟩ := hg.var
  have hlt : lv < w2.heap.size := (Array.getElem?_eq_some_iff.1 hl2).1
  have hbx := balloc w2 (.cells #[.slice sa g.S.length sc, .slice aa g.A.length ac, .slice ta g.T.length tc] 26)
  have hW : Below w0.heap.size w0 (w2.alloc (.cells #[.slice sa g.S.length sc, .slice aa g.A.length ac, .slice ta g.T.length tc] 26)) := hb.trans (hbx.mono hb.size)
  have hBel : ∀ (F : Nat → Prop) w', (∀ k, F k → w0.heap.size ≤ k) → Frm F (w2.alloc (.cells #[.slice sa g.S.length sc, .slice aa g.A.length ac, .slice ta g.T.length tc] 26)) w' → Below w0.heap.size w0 w' := fun F w' hF hf =>
    hW.trans (hf.below hF hW.size)
  have hn := nodesN_right hR
  have hne' := hR.ne
  have e0 : allL g = span g 0 (nodesN g) := by rw [allL_right hR, hn]
  rw [e0]
  have key := each_ok (sa := sa) (aa := aa) (ta := ta) (sc := sc) (ac := ac) (tc := tc) (w := w2) hR h4 h6 105 hE #[.pointer (some ⟨tb, 0, none⟩), .pointer (some ⟨lv, 0, none⟩)] 0 (nodesN g) (nodesN g : Nat) (by simp) (by omega)
    (fun pre w' => App (w2.alloc (.cells #[.slice sa g.S.length sc, .slice aa g.A.length ac, .slice ta g.T.length tc] 26)) lv (tellL f pre) w') ?_ ?_ ?_ ?_
  · refine key.mono ?_
    rintro e w' ⟨rfl, h⟩
    obtain ⟨hf, v', h1, h2⟩ := h
    exact ⟨rfl, v', h1, ownsRow_edges h2, (bfrm hbx _).trans hf⟩
  · intro pre w' h
    refine gvar_of hg (hBel _ w' (fun k hk => by subst hk; exact hlv) h.frm) ?_
    exact h.frm.heap (heap_alloc_new w2 _) (by show w2.heap.size ≠ lv; omega)
  · exact ⟨Frm.refl _ _, .slice none 0 0, bheap hbx hl2, ⟨rfl, .inl ⟨rfl, rfl⟩⟩⟩
  · exact fun pre w' h => h.drew
  · intro pre i k w' h hi1 hi2 hk1 hk2 hp
    have hst := hR.stTop (i := i + 1) (by omega)
    have htos := hR.tos k (by omega)
    have hlen := tellL_len f pre
    rw [tellL_append]
    exact made1_ok M caps w0 f T _ lv tb (tellL f pre) (edge g i k) w' hW hlv (by simp; omega) (bheap hbx htb) hne h (by omega) (by show 0 ≤ (i : Int); omega) htos.1

/-- a graph as a call hands it back -/
def GraphBack (w : World) (G : Gr) (e : Ending) (w' : World) : Prop := ∃ v, e = .returned v ∧ GraphAt w' v G ∧ Below w.heap.size w w'

/-- three slices stored into a variable -/
theorem ret3 {w : World} {b : Nat} {x0 y0 z0 : Value} {t : TypeId} (h : w.heap[b]? = some (.cells #[x0, y0, z0] t (0, 0))) (x y z : Value) :
    (((w.setCell ⟨b, 0, none⟩ x).setCell ⟨b, 1, none⟩ y).setCell ⟨b, 2, none⟩ z).cell? ⟨b, 0, none⟩ = some x ∧
    (((w.setCell ⟨b, 0, none⟩ x).setCell ⟨b, 1, none⟩ y).setCell ⟨b, 2, none⟩ z).cell? ⟨b, 1, none⟩ = some y ∧
    (((w.setCell ⟨b, 0, none⟩ x).setCell ⟨b, 1, none⟩ y).setCell ⟨b, 2, none⟩ z).cell? ⟨b, 2, none⟩ = some z ∧
    Frm (fun k => k = b) w (((w.setCell ⟨b, 0, none⟩ x).setCell ⟨b, 1, none⟩ y).setCell ⟨b, 2, none⟩ z) := by
  have e1 := heap_setCell_block h 0 x
  have e2 := heap_setCell_block e1 1 y
  have e3 := heap_setCell_block e2 2 z
  exact ⟨cell_of_block e3 0 _ rfl, cell_of_block e3 1 _ rfl, cell_of_block e3 2 _ rfl,
    (((Frm.refl (fun k => k = b) w).setCell (p := ⟨b, 0, none⟩) (fun _ => rfl) x).setCell (p := ⟨b, 1, none⟩) (fun _ => rfl) y).setCell (p := ⟨b, 2, none⟩) (fun _ => rfl) z⟩
/-- a block of slices holds no numbers -/
theorem GraphAt.off {w w' : World} {v : Value} {g : Gr} {b : Nat} {a1 a2 a3 : Option Addr} {n1 n2 n3 c1 c2 c3 : Nat} {t : TypeId} {fr : Nat × Nat} (h : GraphAt w v g) (hb : w.heap[b]? = some (.cells #[.slice a1 n1 c1, .slice a2 n2 c2, .slice a3 n3 c3] t fr)) (hf : Frm (fun k => k = b) w w') : GraphAt w' v g := by
  have key : ∀ (p : Addr) (x : Int), w.cell? p = some (.int .i64 x) → w'.cell? p = some (.int .i64 x) := by
    intro p x hp
    refine hf.cell hp ?_
    intro e
    obtain ⟨blk, off, spot⟩ := p
    have e : blk = b := e
    subst e
    have hs := World.cell?_spot hp
    simp only at hs
    subst hs
    simp only [World.cell?, hb] at hp
    rcases off with _ | _ | _ | off <;> simp at hp
  obtain ⟨⟨s, a, t, rfl, ⟨sa, sc, rfl, h1⟩, ⟨aa, ac, rfl, h2⟩, ⟨ta, tc, rfl, h3⟩⟩, h4, h5, h6⟩ := h
  refine ⟨⟨_, _, _, rfl, ⟨sa, sc, rfl, ?_⟩, ⟨aa, ac, rfl, ?_⟩, ⟨ta, tc, rfl, ?_⟩⟩, h4, h5, h6⟩
  · intro j hj; obtain ⟨b', off, e, hc⟩ := h1 j hj; exact ⟨b', off, e, key _ _ hc⟩
  · intro j hj; obtain ⟨b', off, e, hc⟩ := h2 j hj; exact ⟨b', off, e, key _ _ hc⟩
  · intro j hj; obtain ⟨b', off, e, hc⟩ := h3 j hj; exact ⟨b', off, e, key _ _ hc⟩
end Go.Proofs.Ytnlaonppgebpoaa

namespace Go.Proofs.Ytnlaonppgebpoaa
open Go.RowKit

set_option maxRecDepth 100000 in
set_option maxHeartbeats 4000000 in
theorem made_not (M : Nat) (caps : Array Value) (f : Ed → Ed × Bool) (v : Value) (g : Gr) (w : World) (h : GraphAt w v g) (hR : rightB g = false) :
    Calls Try.prog 76 #[v, .func (.func M) #[] caps] w (GraphBack w (madeG g f)) := by
  rw [madeG_not hR]
  obtain ⟨sa, aa, ta, sc, ac, tc, rfl, -⟩ := h.var
  have hb := ((balloc w (.cells #[.slice sa g.S.length sc, .slice aa g.A.length ac, .slice ta g.T.length tc] 26)).trans ((balloc _ (.cells #[.func (.func M) #[] caps] 75)).mono (by simp))).trans ((balloc ((w.alloc (.cells #[.slice sa g.S.length sc, .slice aa g.A.length ac, .slice ta g.T.length tc] 26)).alloc (.cells #[.func (.func M) #[] caps] 75)) (.cells #[.slice none 0 0, .slice none 0 0, .slice none 0 0] 26)).mono (by simp; omega))
  have HN := Lib.hid (right_ok _ g _ (h.below hb))
  rw [hR] at HN
  have X0 := Lib.hid (heap_alloc_at ((w.alloc (.cells #[.slice sa g.S.length sc, .slice aa g.A.length ac, .slice ta g.T.length tc] 26)).alloc (.cells #[.func (.func M) #[] caps] 75)) (.cells #[.slice none 0 0, .slice none 0 0, .slice none 0 0] 26) (w.heap.size + 1 + 1) (by simp))
  have HB := Lib.hid hb
  clear h hR hb
  go_enter Try.func76, Try.ntmps76
  go_wp2_with (first
    | (go_at_call 28; refine HN.out.mono ?_; rintro e w1 ⟨rfl, hb1⟩; have l1 := bheap hb1 X0.out; have r0 := cell_of_block l1 0 _ rfl; have r1 := cell_of_block l1 1 _ rfl; have r2 := cell_of_block l1 2 _ rfl; have g0 := free_of_block l1 0; have g1 := free_of_block l1 1; have g2 := free_of_block l1 2; have HB1 := Lib.hid (HB.out.trans (hb1.mono HB.out.size)); have L1 := Lib.hid l1; clear hb1 l1))
  obtain ⟨q1, q2, q3, q4⟩ := ret3 L1.out (.slice none 0 0) (.slice none 0 0) (.slice none 0 0)
  refine bodyPost_ret (v := .agg #[.slice none 0 0, .slice none 0 0, .slice none 0 0]) (by simp [results, Try.results76, go_sem, q1, q2, q3]) rfl ?_
  exact ⟨_, rfl, graphAt_nil _, HB1.out.trans (q4.below (fun k hk => by omega) HB1.out.size)⟩

/-- made's variables: the graph, the closure, the result -/
structure MSt (w wx : World) (gc : Array Value) (tv : Value) : Prop where
  below : Below w.heap.size w wx
  vg : wx.heap[w.heap.size]? = some (.cells gc 26 (0, 0))
  vt : wx.heap[w.heap.size + 1]? = some (.cells #[tv] 75 (0, 0))
  vr : wx.heap[w.heap.size + 1 + 1]? = some (.cells #[.slice none 0 0, .slice none 0 0, .slice none 0 0] 26 (0, 0))
theorem EdgesAt.drew {w : World} {v : Value} {l : List Ed} (h : EdgesAt w v l) : EdgesAt w.drew v l := h
theorem GraphAt.drew {w : World} {v : Value} {g : Gr} (h : GraphAt w v g) : GraphAt w.drew v g := ⟨h.ex, h.sS, h.sA, h.sT⟩
theorem set3 {w : World} {b : Nat} {x0 y0 z0 : Value} {t : TypeId} (h : w.heap[b]? = some (.cells #[x0, y0, z0] t (0, 0))) (x y z : Value) :
    (((w.setCell ⟨b, 0, none⟩ x).setCell ⟨b, 1, none⟩ y).setCell ⟨b, 2, none⟩ z).heap[b]? = some (.cells #[x, y, z] t (0, 0)) :=
  heap_setCell_block (heap_setCell_block (heap_setCell_block h 0 x) 1 y) 2 z
theorem MSt.size {w wx : World} {gc : Array Value} {tv : Value} (h : MSt w wx gc tv) : w.heap.size + 1 + 1 < wx.heap.size := (Array.getElem?_eq_some_iff.1 h.vr).1
theorem MSt.more {w wx w' : World} {gc : Array Value} {tv : Value} (h : MSt w wx gc tv) (hb : Below wx.heap.size wx w') : MSt w w' gc tv := ⟨h.below.trans (hb.mono h.below.size), bheap hb h.vg, bheap hb h.vt, bheap hb h.vr⟩
theorem MSt.drew {w wx : World} {gc : Array Value} {tv : Value} (h : MSt w wx gc tv) : MSt w wx.drew gc tv := ⟨h.below.drew, h.vg, h.vt, h.vr⟩
theorem MSt.frm {w wx w' : World} {gc : Array Value} {tv : Value} {lv : Nat} (h : MSt w wx gc tv) (hf : Frm (fun k => k = lv) wx w') (hlv : w.heap.size + 1 + 1 < lv) : MSt w w' gc tv :=
  ⟨h.below.trans (hf.below (fun k hk => by omega) h.below.size), hf.heap h.vg (by omega), hf.heap h.vt (by omega), hf.heap h.vr (by omega)⟩

set_option maxRecDepth 100000 in
set_option maxHeartbeats 8000000 in
theorem made_right (M : Nat) (caps : Array Value) (f : Ed → Ed × Bool) (v : Value) (g : Gr) (w : World) (h : GraphAt w v g) (T : Tell M caps w f) (hR : Rt g) :
    Calls Try.prog 76 #[v, .func (.func M) #[] caps] w (GraphBack w (madeG g f)) := by
  rw [madeG_right hR]
  obtain ⟨sa, aa, ta, sc, ac, tc, rfl, -⟩ := h.var
  have hb := ((balloc w (.cells #[.slice sa g.S.length sc, .slice aa g.A.length ac, .slice ta g.T.length tc] 26)).trans ((balloc _ (.cells #[.func (.func M) #[] caps] 75)).mono (by simp))).trans ((balloc ((w.alloc (.cells #[.slice sa g.S.length sc, .slice aa g.A.length ac, .slice ta g.T.length tc] 26)).alloc (.cells #[.func (.func M) #[] caps] 75)) (.cells #[.slice none 0 0, .slice none 0 0, .slice none 0 0] 26)).mono (by simp; omega))
  have HN := Lib.hid (right_ok _ g _ (h.below hb))
  have HNN := Lib.hid (fun w' (hw : Below w.heap.size w w') => nodes_ok _ g w' (h.below hw))
  rw [(rightB_iff g).2 hR] at HN
  have X0 := Lib.hid (heap_alloc_at ((w.alloc (.cells #[.slice sa g.S.length sc, .slice aa g.A.length ac, .slice ta g.T.length tc] 26)).alloc (.cells #[.func (.func M) #[] caps] 75)) (.cells #[.slice none 0 0, .slice none 0 0, .slice none 0 0] 26) (w.heap.size + 1 + 1) (by simp))
  have X1 := Lib.hid (bheap (balloc _ (.cells #[.slice none 0 0, .slice none 0 0, .slice none 0 0] 26)) (heap_alloc_at (w.alloc (.cells #[.slice sa g.S.length sc, .slice aa g.A.length ac, .slice ta g.T.length tc] 26)) (.cells #[.func (.func M) #[] caps] 75) (w.heap.size + 1) (by simp)))
  have X2 := Lib.hid (bheap (balloc _ (.cells #[.slice none 0 0, .slice none 0 0, .slice none 0 0] 26)) (bheap (balloc _ (.cells #[.func (.func M) #[] caps] 75)) (heap_alloc_new w (.cells #[.slice sa g.S.length sc, .slice aa g.A.length ac, .slice ta g.T.length tc] 26))))
  have hl : (tellL f (allL g)).length ≤ 1000000 := by
    have h1 := tellL_len f (allL g)
    have h2 := allL_len hR
    have h3 := h.sT
    omega
  have HB := Lib.hid hb
  have HH := Lib.hid h
  have HR := Lib.hid hR
  have HT := Lib.hid T
  have HL := Lib.hid hl
  clear h hR hb T hl
  go_enter Try.func76, Try.ntmps76
  go_wp2_with (first
    | (go_at_call 28; refine HN.out.mono ?_; rintro e w1 ⟨rfl, hb1⟩; have MS1 := Lib.hid (MSt.mk (HB.out.trans (hb1.mono HB.out.size)) (bheap hb1 X2.out) (bheap hb1 X1.out) (bheap hb1 X0.out)); clear hb1))
  have MS2 := Lib.hid (MS1.out.more (balloc w1 (.cells #[.slice none 0 0] 22)))
  have hs1 := MS1.out.size
  have a0 := cell_of_block MS2.out.vg 0 _ rfl
  have a1 := cell_of_block MS2.out.vg 1 _ rfl
  have a2 := cell_of_block MS2.out.vg 2 _ rfl
  clear HN X0 X1 X2 HB
  go_cut [] (fun wx => ∃ v', wx.heap[w1.heap.size]? = some (.cells #[v'] 22 (0, 0)) ∧ EdgesAt wx v' (tellL f (allL g)) ∧ MSt w wx #[.slice sa g.S.length sc, .slice aa g.A.length ac, .slice ta g.T.length tc] (.func (.func M) #[] caps))
  case first =>
    go_region_with (first
      | (go_at_call 30; refine (HNN.out _ MS2.out.drew.below).mono ?_; rintro e w2 ⟨rfl, hb2⟩; have d0 := bkeep hb2 a0; have d1 := bkeep hb2 a1; have d2 := bkeep hb2 a2; have MS3 := Lib.hid (MS2.out.drew.more hb2); have L := Lib.hid (bheap hb2 (heap_alloc_new w1 (.cells #[.slice none 0 0] 22))); clear hb2)
      | (go_at_call 73; refine (each_made HT.out HH.out HR.out MS3.out.below (lv := w1.heap.size) (by omega) L.out MS3.out.vt (by omega)).mono ?_; rintro e w3 ⟨rfl, v', q1, q2, q3⟩; have Q := Lib.hid (And.intro q1 (And.intro q2 (MS3.out.frm q3 hs1))); clear q1 q2 q3))
    all_goals go_wp2_with fail
    all_goals go_meet
    all_goals exact ⟨v', Q.out⟩
  case rest =>
    obtain ⟨v', k1, k2, k3⟩ := hcut
    obtain ⟨ev, ec, rfl, -⟩ := id k2
    clear a0 a1 a2 MS2
    have b0 := cell_of_block k3.vg 0 _ rfl
    have b1 := cell_of_block k3.vg 1 _ rfl
    have b2 := cell_of_block k3.vg 2 _ rfl
    have lc := cell_of_block k1 0 _ rfl
    have hs3 := k3.size
    have ba0 := bkeep (balloc wc (.cells #[.slice none 0 0, .slice none 0 0, .slice none 0 0] 26)) b0
    have ba1 := bkeep (balloc wc (.cells #[.slice none 0 0, .slice none 0 0, .slice none 0 0] 26)) b1
    have ba2 := bkeep (balloc wc (.cells #[.slice none 0 0, .slice none 0 0, .slice none 0 0] 26)) b2
    have lca := bkeep (balloc wc (.cells #[.slice none 0 0, .slice none 0 0, .slice none 0 0] 26)) lc
    have MS3 := Lib.hid k3
    have KE := Lib.hid k2
    have hll := HL.out
    have hn0 : (0 : Int) ≤ (nodesN g : Nat) := by omega
    generalize hlen : (tellL f (allL g)).length = len at *
    have HLEN := Lib.hid hlen
    clear hlen k1 k2 k3
    go_wp2_with fail
    go_cut [6] (fun t6 wx => ∃ (b : Nat) (s1 s2 s3 : Option Addr) (n1 n2 n3 c1 c2 c3 : Nat), t6 = .pointer (some ⟨b, 0, none⟩) ∧ wx.heap[b]? = some (.cells #[.slice s1 n1 c1, .slice s2 n2 c2, .slice s3 n3 c3] 26 (0, 0)) ∧
      GraphAt wx (.agg #[.slice s1 n1 c1, .slice s2 n2 c2, .slice s3 n3 c3]) (buildG (nodesN g : Nat) (tellL f (allL g))) ∧ wx.heap[w.heap.size + 1 + 1]? = some (.cells #[.slice none 0 0, .slice none 0 0, .slice none 0 0] 26 (0, 0)) ∧ w.heap.size + 1 + 1 < b ∧ Below w.heap.size w wx)
    case first =>
      go_region_with (first
        | (go_at_call 30; refine (HNN.out _ (by first | exact MS3.out.drew.below | exact (MS3.out.more (balloc _ _)).drew.below)).mono ?_; rintro e w2 ⟨rfl, hb2⟩; have lc2 : w2.cell? ⟨w1.heap.size, 0, none⟩ = some (.slice ev len ec) := (by first | exact bkeep hb2 lc | exact bkeep hb2 (bkeep (balloc _ _) lc)); have lc3 := bkeep (balloc w2 (.cells #[.slice none 0 0, .slice none 0 0, .slice none 0 0] 26)) lc2; have MS4 : Hid (MSt w w2 #[.slice sa g.S.length sc, .slice aa g.A.length ac, .slice ta g.T.length tc] (.func (.func M) #[] caps)) := Lib.hid (by first | exact MS3.out.drew.more hb2 | exact (MS3.out.more (balloc _ _)).drew.more hb2); have KE2 : Hid (EdgesAt w2 (.slice ev len ec) (tellL f (allL g))) := Lib.hid (by first | exact KE.out.drew.below hb2 | exact (KE.out.below (balloc _ _)).drew.below hb2); (try (have NB := Lib.hid (bheap hb2 (heap_alloc_new wc (.cells #[.slice none 0 0, .slice none 0 0, .slice none 0 0] 26))))); have hs4 := MS4.out.size; clear hb2)
        | (go_at_call 21; refine (build_any _ _ _ _ (by first | exact KE2.out | exact KE2.out.below (balloc _ _)) (by rw [HLEN.out]; exact HL.out)).mono ?_; rintro e w3 ⟨v3, rfl, hG, hb3⟩; have MS5 : Hid (MSt w w3 #[.slice sa g.S.length sc, .slice aa g.A.length ac, .slice ta g.T.length tc] (.func (.func M) #[] caps)) := Lib.hid (by first | exact MS4.out.more hb3 | exact (MS4.out.more (balloc _ _)).more hb3); obtain ⟨s1, s2, s3, c1, c2, c3, rfl, -⟩ := hG.var; have HG := Lib.hid hG; (try (have nb3 := bheap hb3 (heap_alloc_new w2 (.cells #[.slice none 0 0, .slice none 0 0, .slice none 0 0] 26)); have NB3 := Lib.hid nb3)); (try (have nb3 := bheap hb3 NB.out; have NB3 := Lib.hid nb3)); (try (have e0 := cell_of_block nb3 0 _ rfl; have e1 := cell_of_block nb3 1 _ rfl; have e2 := cell_of_block nb3 2 _ rfl; have g0 := free_of_block nb3 0; have g1 := free_of_block nb3 1; have g2 := free_of_block nb3 2; clear nb3)); have hs5 := MS5.out.size; clear hG hb3))
      all_goals go_wp2_with fail
      all_goals go_meet
      all_goals first
        | exact ⟨_, s1, s2, s3, _, _, _, c1, c2, c3, rfl, heap_alloc_new w3 _, HG.out.below (balloc _ _), bheap (balloc _ _) MS5.out.vr, by omega, MS5.out.below.trans ((balloc _ _).mono MS5.out.below.size)⟩
        | exact ⟨_, s1, s2, s3, _, _, _, c1, c2, c3, rfl, set3 NB3.out _ _ _, HG.out.off NB3.out (ret3 NB3.out _ _ _).2.2.2, (ret3 NB3.out _ _ _).2.2.2.heap MS5.out.vr (by omega), by omega, MS5.out.below.trans ((ret3 NB3.out _ _ _).2.2.2.below (fun k hk => by omega) MS5.out.below.size)⟩
    case rest =>
      obtain ⟨b, s1, s2, s3, n1, n2, n3, c1, c2, c3, rfl, h1, h2, h3, h4, h5⟩ := hcut
      clear b0 b1 b2 lc ba0 ba1 ba2 lca
      have e0 := cell_of_block h1 0 _ rfl
      have e1 := cell_of_block h1 1 _ rfl
      have e2 := cell_of_block h1 2 _ rfl
      have r0 := cell_of_block h3 0 _ rfl
      have r1 := cell_of_block h3 1 _ rfl
      have r2 := cell_of_block h3 2 _ rfl
      have g0 := free_of_block h3 0
      have g1 := free_of_block h3 1
      have g2 := free_of_block h3 2
      have H2 := Lib.hid h2
      have H3 := Lib.hid h3
      have H5 := Lib.hid h5
      clear h1 h2 h3 h5
      go_wp2_with fail
      obtain ⟨q1, q2, q3, q4⟩ := ret3 H3.out (.slice s1 n1 c1) (.slice s2 n2 c2) (.slice s3 n3 c3)
      refine bodyPost_ret (v := .agg #[.slice s1 n1 c1, .slice s2 n2 c2, .slice s3 n3 c3]) (by simp [results, Try.results76, go_sem, q1, q2, q3]) rfl ?_
      exact ⟨_, rfl, H2.out.off H3.out q4, H5.out.trans (q4.below (fun k hk => by omega) H5.out.size)⟩
theorem made_any (M : Nat) (caps : Array Value) (f : Ed → Ed × Bool) (v : Value) (g : Gr) (w : World) (h : GraphAt w v g) (T : Tell M caps w f) :
    Calls Try.prog 76 #[v, .func (.func M) #[] caps] w (GraphBack w (madeG g f)) := by
  cases hr : rightB g
  · exact made_not M caps f v g w h hr
  · exact made_right M caps f v g w h T ((rightB_iff g).1 hr)
end Go.Proofs.Ytnlaonppgebpoaa

namespace Go.Proofs.Ytnlaonppgebpoaa
open Go.RowKit

def swapE (e : Ed) : Ed × Bool := ((e.2.2, e.2.1, e.1), true)
set_option maxRecDepth 100000 in
set_option maxHeartbeats 4000000 in
theorem back_tell (w0 : World) : Tell 77 #[] w0 swapE := by
  refine ⟨enters_of Try.func77 (by kernel_rfl) rfl, ?_⟩
  rintro ⟨x, y, z⟩ w _ _ _
  show Calls Try.prog 77 #[.agg #[.int .i64 x, .int .i64 y, .int .i64 z]] w _
  go_enter Try.func77, Try.ntmps77
  go_wp2_with fail
  refine bodyPost_ret (v := .tuple #[.agg #[.int .i64 z, .int .i64 y, .int .i64 x], .bool true]) (by simp [results, Try.results77, go_sem]) rfl ?_
  exact ⟨rfl, (balloc w _).trans ((balloc _ _).mono (by simp))⟩

def backG (g : Gr) : Gr := madeG g swapE
set_option maxRecDepth 100000 in
set_option maxHeartbeats 4000000 in
theorem back_ok (v : Value) (g : Gr) (w : World) (h : GraphAt w v g) : Calls Try.prog 34 #[v] w (GraphBack w (backG g)) := by
  obtain ⟨sa, aa, ta, sc, ac, tc, rfl, -⟩ := h.var
  have hb := (balloc w (.cells #[.slice sa g.S.length sc, .slice aa g.A.length ac, .slice ta g.T.length tc] 26)).trans ((balloc (w.alloc (.cells #[.slice sa g.S.length sc, .slice aa g.A.length ac, .slice ta g.T.length tc] 26)) (.cells #[.slice none 0 0, .slice none 0 0, .slice none 0 0] 26)).mono (by simp))
  have HM := Lib.hid (made_any 77 #[] swapE _ g _ (h.below hb) (back_tell _))
  have X0 := Lib.hid (heap_alloc_at (w.alloc (.cells #[.slice sa g.S.length sc, .slice aa g.A.length ac, .slice ta g.T.length tc] 26)) (.cells #[.slice none 0 0, .slice none 0 0, .slice none 0 0] 26) (w.heap.size + 1) (by simp))
  have HB := Lib.hid hb
  clear h hb
  go_enter Try.func34, Try.ntmps34
  go_wp2_with (first
    | (go_at_call 76; refine HM.out.mono ?_; rintro e w1 ⟨v1, rfl, hG, hb1⟩; obtain ⟨s1, s2, s3, c1, c2, c3, rfl, -⟩ := hG.var; have l1 := bheap hb1 X0.out; have r0 := cell_of_block l1 0 _ rfl; have r1 := cell_of_block l1 1 _ rfl; have r2 := cell_of_block l1 2 _ rfl; have g0 := free_of_block l1 0; have g1 := free_of_block l1 1; have g2 := free_of_block l1 2; have HB1 := Lib.hid (HB.out.trans (hb1.mono HB.out.size)); have L1 := Lib.hid l1; have HG := Lib.hid hG; clear hb1 l1 hG))
  obtain ⟨q1, q2, q3, q4⟩ := ret3 L1.out (.slice s1 (madeG g swapE).S.length c1) (.slice s2 (madeG g swapE).A.length c2) (.slice s3 (madeG g swapE).T.length c3)
  refine bodyPost_ret (v := .agg #[.slice s1 (madeG g swapE).S.length c1, .slice s2 (madeG g swapE).A.length c2, .slice s3 (madeG g swapE).T.length c3]) (by simp [results, Try.results34, go_sem, q1, q2, q3]) rfl ?_
  exact ⟨_, rfl, HG.out.off L1.out q4, HB1.out.trans (q4.below (fun k hk => by omega) HB1.out.size)⟩

/-- is a node in? -/
def inB (l : List Bool) (i : Int) : Bool := decide (i < (l.length : Int)) && l.getD i.toNat false
set_option maxRecDepth 100000 in
set_option maxHeartbeats 4000000 in
theorem is_ok (l : List Bool) (i : Int) (hi : 0 ≤ i) (v : Value) (b : Nat) (w : World) (h : BoolsAt w v l) (hb : w.cell? ⟨b, 0, none⟩ = some v) (_hl : l.length ≤ 9223372036854775807) :
    Calls Try.prog 78 #[.int .i64 i, .pointer (some ⟨b, 0, none⟩)] w fun e w' => e = .returned (.bool (inB l i)) ∧ w = w' := by
  obtain ⟨k, rfl⟩ : ∃ k : Nat, i = (k : Int) := ⟨i.toNat, by omega⟩
  obtain ⟨a, cap, rfl, ha⟩ := h
  by_cases hk : k < l.length
  · obtain ⟨b', off, rfl, d⟩ := ha k hk
    have E := Lib.hid (show inB l k = l.getD k false by unfold inB; simp [hk])
    have z : (k : Int) < (l.length : Int) := by omega
    clear ha
    generalize l.getD k false = x at *
    go_enter Try.func78, Try.ntmps78
    go_wp2_with fail
    go_ret
    exact ⟨by rw [E.out]; rfl, rfl⟩
  · have E := Lib.hid (show inB l k = false by unfold inB; simp [hk])
    have z : ¬ (k : Int) < (l.length : Int) := by omega
    clear ha
    go_enter Try.func78, Try.ntmps78
    go_wp2_with fail
    go_ret
    exact ⟨by rw [E.out]; rfl, rfl⟩
set_option maxRecDepth 100000 in
set_option maxHeartbeats 4000000 in
theorem ris_ok (l : List Bool) (i : Int) (hi : 0 ≤ i) (v : Value) (w : World) (h : BoolsAt w v l) (_hl : l.length ≤ 9223372036854775807) :
    Calls Try.prog 80 #[v, .int .i64 i] w fun e w' => e = .returned (.bool (inB l i)) ∧ w = w' := by
  obtain ⟨k, rfl⟩ : ∃ k : Nat, i = (k : Int) := ⟨i.toNat, by omega⟩
  obtain ⟨a, cap, rfl, ha⟩ := h
  by_cases hk : k < l.length
  · obtain ⟨b', off, rfl, d⟩ := ha k hk
    have E := Lib.hid (show inB l k = l.getD k false by unfold inB; simp [hk])
    have z : (k : Int) < (l.length : Int) := by omega
    clear ha
    generalize l.getD k false = x at *
    go_enter Try.func80, Try.ntmps80
    go_wp2_with fail
    go_ret
    exact ⟨by rw [E.out]; rfl, rfl⟩
  · have E := Lib.hid (show inB l k = false by unfold inB; simp [hk])
    have z : ¬ (k : Int) < (l.length : Int) := by omega
    clear ha
    go_enter Try.func80, Try.ntmps80
    go_wp2_with fail
    go_ret
    exact ⟨by rw [E.out]; rfl, rfl⟩
end Go.Proofs.Ytnlaonppgebpoaa

namespace Go.Proofs.Ytnlaonppgebpoaa

theorem swap_ok {g : Gr} (h : Rt g) (hn : g.S.length ≤ 100000) : buildOk (nodesN g : Nat) (tellL swapE (allL g)) = true := by
  have hnr := nodesN_right h
  refine buildOk_intro (by omega) ?_
  intro e he
  simp only [tellL, List.mem_map, List.mem_filter] at he
  obtain ⟨x, ⟨hx, -⟩, rfl⟩ := he
  have := allL_mem h hx
  simp only [swapE]
  omega
theorem backG_csr {g : Gr} (h : Rt g) (hn : g.S.length ≤ 100000) : backG g = csr (nodesN g) (tellL swapE (allL g)) := by
  unfold backG
  rw [madeG_right h, buildG_ok (swap_ok h hn)]
theorem tellL_swap (l : List Ed) : tellL swapE l = l.map (fun e => (e.2.2, e.2.1, e.1)) := by
  unfold tellL
  have e : l.filter (fun e => (swapE e).2) = l := List.filter_eq_self.2 (fun _ _ => rfl)
  rw [e]; rfl
theorem backG_right {g : Gr} (h : Rt g) (hn : g.S.length ≤ 100000) : Rt (backG g) := by rw [backG_csr h hn]; exact csr_right (swap_ok h hn)
theorem backG_nodes {g : Gr} (h : Rt g) (hn : g.S.length ≤ 100000) : nodesN (backG g) = nodesN g := by
  rw [nodesN_right (backG_right h hn), backG_csr h hn, csr_S_len]; omega
theorem outL_len (g : Gr) (i : Int) : (outL g i).length ≤ g.T.length := by
  unfold outL
  split
  · rename_i h
    have hR := (rightB_iff g).1 h.1
    have := hR.stTop (i := i.toNat + 1) (by omega)
    rw [eds, edsN_len]; omega
  · simp
theorem outL_eds {g : Gr} (h : Rt g) {i : Nat} (hi : i < nodesN g) : outL g i = eds g i := by
  have := nodesN_right h
  unfold outL; rw [if_pos ⟨(rightB_iff g).2 h, by omega, by omega⟩]; simp
theorem back_out {g : Gr} (h : Rt g) (hn : g.S.length ≤ 100000) {i : Nat} (hi : i < nodesN g) : (outL (backG g) i).length = (allL g).countP (fun e => decide (e.2.2 = (i : Int))) := by
  rw [outL_eds (backG_right h hn) (by rw [backG_nodes h hn]; exact hi), backG_csr h hn, eds_csr (swap_ok h hn) hi, tellL_swap, outs, ← List.countP_eq_length_filter, List.countP_map]
  rfl
theorem back_all {g : Gr} (h : Rt g) (hn : g.S.length ≤ 100000) : (allL (backG g)).length = (allL g).length := by
  have e := countP_all_csr (fun _ => true) (swap_ok h hn)
  rw [List.countP_eq_length.2 (by simp), List.countP_eq_length.2 (by simp)] at e
  rw [backG_csr h hn, e, tellL_swap, List.length_map]
theorem countTo_take (l : List Ed) (i : Int) (k : Nat) (hk : k < l.length) : (l.take (k + 1)).countP (fun e => decide (e.2.2 = i)) = (l.take k).countP (fun e => decide (e.2.2 = i)) + if (l.getD k (0, 0, 0)).2.2 = i then 1 else 0 := by
  rw [List.take_add_one, List.getElem?_eq_getElem hk, Option.toList_some, List.countP_append, List.countP_cons]
  simp [List.getD, hk]
end Go.Proofs.Ytnlaonppgebpoaa
