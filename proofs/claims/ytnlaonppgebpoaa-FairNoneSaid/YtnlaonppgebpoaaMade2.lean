/-
  edges.made: the walk.
-/
import Derived.Test.YtnlaonppgebpoaaMade
import Derived.Deep.RegionWith
import Derived.Deep.DeepCutAuto
namespace Go.Proofs.Ytnlaonppgebpoaa
open Go.RowKit

set_option maxRecDepth 100000 in
set_option maxHeartbeats 4000000 in
theorem made_not (M : Nat) (caps : Array Value) (f : Ed → Ed × Bool) (v : Value) (g : Gr) (w : World) (h : GraphAt w v g) (hR : rightB g = false) :
    Calls Try.prog 76 #[v, .func (.func M) #[] caps] w (GraphBack w (madeG g f)) := by
  rw [madeG_not hR]
  obtain ⟨sa, aa, ta, sc, ac, tc, rfl, -⟩ := h.var
  have hb := ((balloc w (.cells #[.slice sa g.S.length sc, .slice aa g.A.length ac, .slice ta g.T.length tc] 26)).trans ((balloc _ (.cells #[.func (.func M) #[] caps] 75)).mono (by simp))).trans ((balloc ((w.alloc (.cells #[.slice sa g.S.length sc, .slice aa g.A.length ac, .slice ta g.T.length tc] 26)).alloc (.cells #[.func (.func M) #[] caps] 75)) (.cells #[.slice none 0 0, .slice none 0 0, .slice none 0 0] 26)).mono (by simp; omega))
  have HN := Lib.hid (right_ok _ g _ (h.below hb))
  rw [hR] at HN
  have X0 := Lib.hid (heap_alloc_at ((w.alloc (.cells #[.slice sa g.S.length sc, .slice aa g.A.length ac, .slice ta g.T.length tc] 26)).alloc (.cells #[.func (.func M) #[] caps] 75)) (.cells #[.slice none 0 0, .slice none 0 0, .slice none 0 0] 26) (w.heap.size + 1 + 1) (by simp))
  have HB := Lib.hid hb
  clear h hR hb
  go_enter Try.func76, Try.ntmps76
  go_wp2_with (first
    | (go_at_call 28; refine HN.out.mono ?_; rintro e w1 ⟨rfl, hb1⟩; have l1 := bheap hb1 X0.out; have r0 := cell_of_block l1 0 _ rfl; have r1 := cell_of_block l1 1 _ rfl; have r2 := cell_of_block l1 2 _ rfl; have g0 := free_of_block l1 0; have g1 := free_of_block l1 1; have g2 := free_of_block l1 2; have HB1 := Lib.hid (HB.out.trans (hb1.mono HB.out.size)); have L1 := Lib.hid l1; clear hb1 l1))
  obtain ⟨q1, q2, q3, q4⟩ := ret3 L1.out (.slice none 0 0) (.slice none 0 0) (.slice none 0 0)
  refine bodyPost_ret (v := .agg #[.slice none 0 0, .slice none 0 0, .slice none 0 0]) (by simp [results, Try.results76, go_sem, q1, q2, q3]) rfl ?_
  exact ⟨_, rfl, graphAt_nil _, HB1.out.trans (q4.below (fun k hk => by omega) HB1.out.size)⟩

/-- made's variables: the graph, the closure, the result -/
structure MSt (w wx : World) (gc : Array Value) (tv : Value) : Prop where
  below : Below w.heap.size w wx
  vg : wx.heap[w.heap.size]? = some (.cells gc 26 (0, 0))
  vt : wx.heap[w.heap.size + 1]? = some (.cells #[tv] 75 (0, 0))
  vr : wx.heap[w.heap.size + 1 + 1]? = some (.cells #[.slice none 0 0, .slice none 0 0, .slice none 0 0] 26 (0, 0))
theorem EdgesAt.drew {w : World} {v : Value} {l : List Ed} (h : EdgesAt w v l) : EdgesAt w.drew v l := h
theorem GraphAt.drew {w : World} {v : Value} {g : Gr} (h : GraphAt w v g) : GraphAt w.drew v g := ⟨h.ex, h.sS, h.sA, h.sT⟩
theorem set3 {w : World} {b : Nat} {x0 y0 z0 : Value} {t : TypeId} (h : w.heap[b]? = some (.cells #[x0, y0, z0] t (0, 0))) (x y z : Value) :
    (((w.setCell ⟨b, 0, none⟩ x).setCell ⟨b, 1, none⟩ y).setCell ⟨b, 2, none⟩ z).heap[b]? = some (.cells #[x, y, z] t (0, 0)) :=
  heap_setCell_block (heap_setCell_block (heap_setCell_block h 0 x) 1 y) 2 z
theorem MSt.size {w wx : World} {gc : Array Value} {tv : Value} (h : MSt w wx gc tv) : w.heap.size + 1 + 1 < wx.heap.size := (Array.getElem?_eq_some_iff.1 h.vr).1
theorem MSt.more {w wx w' : World} {gc : Array Value} {tv : Value} (h : MSt w wx gc tv) (hb : Below wx.heap.size wx w') : MSt w w' gc tv := ⟨h.below.trans (hb.mono h.below.size), bheap hb h.vg, bheap hb h.vt, bheap hb h.vr⟩
theorem MSt.drew {w wx : World} {gc : Array Value} {tv : Value} (h : MSt w wx gc tv) : MSt w wx.drew gc tv := ⟨h.below.drew, h.vg, h.vt, h.vr⟩
theorem MSt.frm {w wx w' : World} {gc : Array Value} {tv : Value} {lv : Nat} (h : MSt w wx gc tv) (hf : Frm (fun k => k = lv) wx w') (hlv : w.heap.size + 1 + 1 < lv) : MSt w w' gc tv :=
  ⟨h.below.trans (hf.below (fun k hk => by omega) h.below.size), hf.heap h.vg (by omega), hf.heap h.vt (by omega), hf.heap h.vr (by omega)⟩

set_option maxRecDepth 100000 in
set_option maxHeartbeats 8000000 in
theorem made_right (M : Nat) (caps : Array Value) (f : Ed → Ed × Bool) (v : Value) (g : Gr) (w : World) (h : GraphAt w v g) (T : Tell M caps w f) (hR : Rt g) :
    Calls Try.prog 76 #[v, .func (.func M) #[] caps] w (GraphBack w (madeG g f)) := by
  rw [madeG_right hR]
  obtain ⟨sa, aa, ta, sc, ac, tc, rfl, -⟩ := h.var
  have hb := ((balloc w (.cells #[.slice sa g.S.length sc, .slice aa g.A.length ac, .slice ta g.T.length tc] 26)).trans ((balloc _ (.cells #[.func (.func M) #[] caps] 75)).mono (by simp))).trans ((balloc ((w.alloc (.cells #[.slice sa g.S.length sc, .slice aa g.A.length ac, .slice ta g.T.length tc] 26)).alloc (.cells #[.func (.func M) #[] caps] 75)) (.cells #[.slice none 0 0, .slice none 0 0, .slice none 0 0] 26)).mono (by simp; omega))
  have HN := Lib.hid (right_ok _ g _ (h.below hb))
  have HNN := Lib.hid (fun w' (hw : Below w.heap.size w w') => nodes_ok _ g w' (h.below hw))
  rw [(rightB_iff g).2 hR] at HN
  have X0 := Lib.hid (heap_alloc_at ((w.alloc (.cells #[.slice sa g.S.length sc, .slice aa g.A.length ac, .slice ta g.T.length tc] 26)).alloc (.cells #[.func (.func M) #[] caps] 75)) (.cells #[.slice none 0 0, .slice none 0 0, .slice none 0 0] 26) (w.heap.size + 1 + 1) (by simp))
  have X1 := Lib.hid (bheap (balloc _ (.cells #[.slice none 0 0, .slice none 0 0, .slice none 0 0] 26)) (heap_alloc_at (w.alloc (.cells #[.slice sa g.S.length sc, .slice aa g.A.length ac, .slice ta g.T.length tc] 26)) (.cells #[.func (.func M) #[] caps] 75) (w.heap.size + 1) (by simp)))
  have X2 := Lib.hid (bheap (balloc _ (.cells #[.slice none 0 0, .slice none 0 0, .slice none 0 0] 26)) (bheap (balloc _ (.cells #[.func (.func M) #[] caps] 75)) (heap_alloc_new w (.cells #[.slice sa g.S.length sc, .slice aa g.A.length ac, .slice ta g.T.length tc] 26))))
  have hl : (tellL f (allL g)).length ≤ 1000000 := by
    have h1 := tellL_len f (allL g)
    have h2 := allL_len hR
    have h3 := h.sT
    omega
  have HB := Lib.hid hb
  have HH := Lib.hid h
  have HR := Lib.hid hR
  have HT := Lib.hid T
  have HL := Lib.hid hl
  clear h hR hb T hl
  go_enter Try.func76, Try.ntmps76
  go_wp2_with (first
    | (go_at_call 28; refine HN.out.mono ?_; rintro e w1 ⟨rfl, hb1⟩; have MS1 := Lib.hid (MSt.mk (HB.out.trans (hb1.mono HB.out.size)) (bheap hb1 X2.out) (bheap hb1 X1.out) (bheap hb1 X0.out)); clear hb1))
  have MS2 := Lib.hid (MS1.out.more (balloc w1 (.cells #[.slice none 0 0] 22)))
  have hs1 := MS1.out.size
  have a0 := cell_of_block MS2.out.vg 0 _ rfl
  have a1 := cell_of_block MS2.out.vg 1 _ rfl
  have a2 := cell_of_block MS2.out.vg 2 _ rfl
  clear HN X0 X1 X2 HB
  go_cut [] (fun wx => ∃ v', wx.heap[w1.heap.size]? = some (.cells #[v'] 22 (0, 0)) ∧ EdgesAt wx v' (tellL f (allL g)) ∧ MSt w wx #[.slice sa g.S.length sc, .slice aa g.A.length ac, .slice ta g.T.length tc] (.func (.func M) #[] caps))
  case first =>
    go_region_with (first
      | (go_at_call 30; refine (HNN.out _ MS2.out.drew.below).mono ?_; rintro e w2 ⟨rfl, hb2⟩; have d0 := bkeep hb2 a0; have d1 := bkeep hb2 a1; have d2 := bkeep hb2 a2; have MS3 := Lib.hid (MS2.out.drew.more hb2); have L := Lib.hid (bheap hb2 (heap_alloc_new w1 (.cells #[.slice none 0 0] 22))); clear hb2)
      | (go_at_call 73; refine (each_made HT.out HH.out HR.out MS3.out.below (lv := w1.heap.size) (by omega) L.out MS3.out.vt (by omega)).mono ?_; rintro e w3 ⟨rfl, v', q1, q2, q3⟩; have Q := Lib.hid (And.intro q1 (And.intro q2 (MS3.out.frm q3 hs1))); clear q1 q2 q3))
    all_goals go_wp2_with fail
    all_goals go_meet
    all_goals exact ⟨v', Q.out⟩
  case rest =>
    obtain ⟨v', k1, k2, k3⟩ := hcut
    obtain ⟨ev, ec, rfl, -⟩ := id k2
    clear a0 a1 a2 MS2
    have b0 := cell_of_block k3.vg 0 _ rfl
    have b1 := cell_of_block k3.vg 1 _ rfl
    have b2 := cell_of_block k3.vg 2 _ rfl
    have lc := cell_of_block k1 0 _ rfl
    have hs3 := k3.size
    have ba0 := bkeep (balloc wc (.cells #[.slice none 0 0, .slice none 0 0, .slice none 0 0] 26)) b0
    have ba1 := bkeep (balloc wc (.cells #[.slice none 0 0, .slice none 0 0, .slice none 0 0] 26)) b1
    have ba2 := bkeep (balloc wc (.cells #[.slice none 0 0, .slice none 0 0, .slice none 0 0] 26)) b2
    have lca := bkeep (balloc wc (.cells #[.slice none 0 0, .slice none 0 0, .slice none 0 0] 26)) lc
    have MS3 := Lib.hid k3
    have KE := Lib.hid k2
    have hll := HL.out
    have hn0 : (0 : Int) ≤ (nodesN g : Nat) := by omega
    generalize hlen : (tellL f (allL g)).length = len at *
    have HLEN := Lib.hid hlen
    clear hlen k1 k2 k3
    go_wp2_with fail
    go_cut [6] (fun t6 wx => ∃ (b : Nat) (s1 s2 s3 : Option Addr) (n1 n2 n3 c1 c2 c3 : Nat), t6 = .pointer (some ⟨b, 0, none⟩) ∧ wx.heap[b]? = some (.cells #[.slice s1 n1 c1, .slice s2 n2 c2, .slice s3 n3 c3] 26 (0, 0)) ∧
      GraphAt wx (.agg #[.slice s1 n1 c1, .slice s2 n2 c2, .slice s3 n3 c3]) (buildG (nodesN g : Nat) (tellL f (allL g))) ∧ wx.heap[w.heap.size + 1 + 1]? = some (.cells #[.slice none 0 0, .slice none 0 0, .slice none 0 0] 26 (0, 0)) ∧ w.heap.size + 1 + 1 < b ∧ Below w.heap.size w wx)
    case first =>
      go_region_with (first
        | (go_at_call 30; refine (HNN.out _ (by first | exact MS3.out.drew.below | exact (MS3.out.more (balloc _ _)).drew.below)).mono ?_; rintro e w2 ⟨rfl, hb2⟩; have lc2 : w2.cell? ⟨w1.heap.size, 0, none⟩ = some (.slice ev len ec) := (by first | exact bkeep hb2 lc | exact bkeep hb2 (bkeep (balloc _ _) lc)); have lc3 := bkeep (balloc w2 (.cells #[.slice none 0 0, .slice none 0 0, .slice none 0 0] 26)) lc2; have MS4 : Hid (MSt w w2 #[.slice sa g.S.length sc, .slice aa g.A.length ac, .slice ta g.T.length tc] (.func (.func M) #[] caps)) := Lib.hid (by first | exact MS3.out.drew.more hb2 | exact (MS3.out.more (balloc _ _)).drew.more hb2); have KE2 : Hid (EdgesAt w2 (.slice ev len ec) (tellL f (allL g))) := Lib.hid (by first | exact KE.out.drew.below hb2 | exact (KE.out.below (balloc _ _)).drew.below hb2); (try (have NB := Lib.hid (bheap hb2 (heap_alloc_new wc (.cells #[.slice none 0 0, .slice none 0 0, .slice none 0 0] 26))))); have hs4 := MS4.out.size; clear hb2)
        | (go_at_call 21; refine (build_any _ _ _ _ (by first | exact KE2.out | exact KE2.out.below (balloc _ _)) (by rw [HLEN.out]; exact HL.out)).mono ?_; rintro e w3 ⟨v3, rfl, hG, hb3⟩; have MS5 : Hid (MSt w w3 #[.slice sa g.S.length sc, .slice aa g.A.length ac, .slice ta g.T.length tc] (.func (.func M) #[] caps)) := Lib.hid (by first | exact MS4.out.more hb3 | exact (MS4.out.more (balloc _ _)).more hb3); obtain ⟨s1, s2, s3, c1, c2, c3, rfl, -⟩ := hG.var; have HG := Lib.hid hG; (try (have nb3 := bheap hb3 (heap_alloc_new w2 (.cells #[.slice none 0 0, .slice none 0 0, .slice none 0 0] 26)); have NB3 := Lib.hid nb3)); (try (have nb3 := bheap hb3 NB.out; have NB3 := Lib.hid nb3)); (try (have e0 := cell_of_block nb3 0 _ rfl; have e1 := cell_of_block nb3 1 _ rfl; have e2 := cell_of_block nb3 2 _ rfl; have g0 := free_of_block nb3 0; have g1 := free_of_block nb3 1; have g2 := free_of_block nb3 2; clear nb3)); have hs5 := MS5.out.size; clear hG hb3))
      all_goals go_wp2_with fail
      all_goals go_meet
      all_goals first
        | exact ⟨_, s1, s2, s3, _, _, _, c1, c2, c3, rfl, heap_alloc_new w3 _, HG.out.below (balloc _ _), bheap (balloc _ _) MS5.out.vr, by omega, MS5.out.below.trans ((balloc _ _).mono MS5.out.below.size)⟩
        | exact ⟨_, s1, s2, s3, _, _, _, c1, c2, c3, rfl, set3 NB3.out _ _ _, HG.out.off NB3.out (ret3 NB3.out _ _ _).2.2.2, (ret3 NB3.out _ _ _).2.2.2.heap MS5.out.vr (by omega), by omega, MS5.out.below.trans ((ret3 NB3.out _ _ _).2.2.2.below (fun k hk => by omega) MS5.out.below.size)⟩
    case rest =>
      obtain ⟨b, s1, s2, s3, n1, n2, n3, c1, c2, c3, rfl, h1, h2, h3, h4, h5⟩ := hcut
      clear b0 b1 b2 lc ba0 ba1 ba2 lca
      have e0 := cell_of_block h1 0 _ rfl
      have e1 := cell_of_block h1 1 _ rfl
      have e2 := cell_of_block h1 2 _ rfl
      have r0 := cell_of_block h3 0 _ rfl
      have r1 := cell_of_block h3 1 _ rfl
      have r2 := cell_of_block h3 2 _ rfl
      have g0 := free_of_block h3 0
      have g1 := free_of_block h3 1
      have g2 := free_of_block h3 2
      have H2 := Lib.hid h2
      have H3 := Lib.hid h3
      have H5 := Lib.hid h5
      clear h1 h2 h3 h5
      go_wp2_with fail
      obtain ⟨q1, q2, q3, q4⟩ := ret3 H3.out (.slice s1 n1 c1) (.slice s2 n2 c2) (.slice s3 n3 c3)
      refine bodyPost_ret (v := .agg #[.slice s1 n1 c1, .slice s2 n2 c2, .slice s3 n3 c3]) (by simp [results, Try.results76, go_sem, q1, q2, q3]) rfl ?_
      exact ⟨_, rfl, H2.out.off H3.out q4, H5.out.trans (q4.below (fun k hk => by omega) H5.out.size)⟩
theorem made_any (M : Nat) (caps : Array Value) (f : Ed → Ed × Bool) (v : Value) (g : Gr) (w : World) (h : GraphAt w v g) (T : Tell M caps w f) :
    Calls Try.prog 76 #[v, .func (.func M) #[] caps] w (GraphBack w (madeG g f)) := by
  cases hr : rightB g
  · exact made_not M caps f v g w h hr
  · exact made_right M caps f v g w h T ((rightB_iff g).1 hr)
end Go.Proofs.Ytnlaonppgebpoaa
