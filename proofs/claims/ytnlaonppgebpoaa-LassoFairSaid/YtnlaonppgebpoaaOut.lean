/-
  edges.Out, edges.All.
-/
import Derived.Test.YtnlaonppgebpoaaEach
import Derived.Test.YtnlaonppgebpoaaBase
import Derived.Deep.RegionWith
namespace Go.Proofs.Ytnlaonppgebpoaa
open Go.RowKit

theorem gvar_of {w w' : World} {g : Gr} {B : Nat} {sa aa ta : Option Addr} {sc ac tc : Nat} (h : GraphAt w (.agg #[.slice sa g.S.length sc, .slice aa g.A.length ac, .slice ta g.T.length tc]) g) (hb : Below w.heap.size w w')
    (hB : w'.heap[B]? = some (.cells #[.slice sa g.S.length sc, .slice aa g.A.length ac, .slice ta g.T.length tc] 26 (0, 0))) : GVar w' B sa aa ta sc ac tc g := by
  obtain ⟨⟨s, a, t, e, ⟨sa', sc', e1, h1⟩, ⟨aa', ac', e2, h2⟩, ⟨ta', tc', e3, h3⟩⟩, h4, h5, h6⟩ := h
  cases e; cases e1; cases e2; cases e3
  refine ⟨cell_of_block hB 0 _ rfl, cell_of_block hB 1 _ rfl, cell_of_block hB 2 _ rfl, ?_, ?_, ?_⟩
  · intro j hj; obtain ⟨b, off, e, hc⟩ := h1 j hj; exact ⟨b, off, e, bkeep hb hc⟩
  · intro j hj; obtain ⟨b, off, e, hc⟩ := h2 j hj; exact ⟨b, off, e, bkeep hb hc⟩
  · intro j hj; obtain ⟨b, off, e, hc⟩ := h3 j hj; exact ⟨b, off, e, bkeep hb hc⟩

theorem each_app (N : Nat) (hE : Enters Try.prog N)
    (hcl : ∀ (W : World) (lv : Nat) (l : List Ed) (x y z : Int) (w : World), lv < W.heap.size → App W lv l w → l.length < 1000000 →
      Calls Try.prog N #[.agg #[.int .i64 x, .int .i64 y, .int .i64 z], .pointer (some ⟨lv, 0, none⟩)] w fun e w' => e = .returned (.tuple #[]) ∧ App W lv (l ++ [(x, y, z)]) w')
    {g : Gr} {v : Value} {w w2 : World} {lv : Nat} (hg : GraphAt w v g) (hR : Rt g) (hb : Below w.heap.size w w2) (hlv : w.heap.size ≤ lv) (hl2 : w2.heap[lv]? = some (.cells #[.slice none 0 0] 22 (0, 0)))
    (a m : Nat) (b : Int) (hab : b = (a : Int) + (m : Int)) (ham : a + m < g.S.length) :
    Calls Try.prog 73 #[v, .int .i64 (a : Nat), .int .i64 b, .func (.func N) #[] #[.pointer (some ⟨lv, 0, none⟩)]] w2 fun e w' => e = .returned (.tuple #[]) ∧
      ∃ v', w'.heap[lv]? = some (.cells #[v'] 22 (0, 0)) ∧ EdgesAt w' v' (span g a m) ∧ Below w.heap.size w w' := by
  have h4 := hg.sS
  have h6 := hg.sT
  obtain ⟨sa, aa, ta, sc, ac, tc, rfl, -⟩ := hg.var
  have hlt : lv < w2.heap.size := (Array.getElem?_eq_some_iff.1 hl2).1
  have hbx := balloc w2 (.cells #[.slice sa g.S.length sc, .slice aa g.A.length ac, .slice ta g.T.length tc] 26)
  have hBel : ∀ (F : Nat → Prop) w', (∀ k, F k → w.heap.size ≤ k) → Frm F (w2.alloc (.cells #[.slice sa g.S.length sc, .slice aa g.A.length ac, .slice ta g.T.length tc] 26)) w' → Below w.heap.size w w' := fun F w' hF hf =>
    (hb.trans (hbx.mono hb.size)).trans (hf.below hF (by have := hb.size; simp; omega))
  refine (each_ok hR h4 h6 N hE _ a m b hab ham (fun pre w' => App (w2.alloc (.cells #[.slice sa g.S.length sc, .slice aa g.A.length ac, .slice ta g.T.length tc] 26)) lv pre w') ?_ ?_ ?_ ?_).mono ?_
  · intro pre w' h
    refine gvar_of hg (hBel _ w' (fun k hk => by subst hk; exact hlv) h.frm) ?_
    exact h.frm.heap (heap_alloc_new w2 _) (by show w2.heap.size ≠ lv; omega)
  · exact ⟨Frm.refl _ _, .slice none 0 0, bheap hbx hl2, ⟨rfl, .inl ⟨rfl, rfl⟩⟩⟩
  · exact fun pre w' h => h.drew
  · intro pre i k w' h _ _ _ _ hp
    have e : #[Value.agg #[.int .i64 (i : Nat), .int .i64 (g.A.getD k 0), .int .i64 (g.T.getD k 0)]] ++ #[Value.pointer (some ⟨lv, 0, none⟩)] = #[Value.agg #[.int .i64 (i : Nat), .int .i64 (g.A.getD k 0), .int .i64 (g.T.getD k 0)], Value.pointer (some ⟨lv, 0, none⟩)] := by simp
    rw [e]
    exact hcl _ lv pre _ _ _ w' (by simp; omega) h (by omega)
  · rintro e w' ⟨rfl, h⟩
    obtain ⟨hf, v', h1, h2⟩ := h
    exact ⟨rfl, v', h1, ownsRow_edges h2, hBel _ w' (fun k hk => by subst hk; exact hlv) hf⟩

def outL (g : Gr) (i : Int) : List Ed := if rightB g = true ∧ 0 ≤ i ∧ i + 1 < g.S.length then eds g i.toNat else []
/-- edges as a call hands them back -/
def EdgesBack (w : World) (l : List Ed) (e : Ending) (w' : World) : Prop := ∃ v, e = .returned v ∧ EdgesAt w' v l ∧ Below w.heap.size w w'

theorem span_one (g : Gr) (i : Nat) : span g i 1 = eds g i := by simp [span]

set_option maxRecDepth 100000 in
set_option maxHeartbeats 4000000 in
theorem out_ok (v : Value) (g : Gr) (i : Int) (w : World) (h : GraphAt w v g) : Calls Try.prog 26 #[v, .int .i64 i] w (EdgesBack w (outL g i)) := by
  have h4 := h.sS
  have hE : Enters Try.prog 74 := enters_of Try.func74 (by kernel_rfl) rfl
  obtain ⟨sa, aa, ta, sc, ac, tc, rfl, -⟩ := h.var
  have hb := balloc w (.cells #[.slice sa g.S.length sc, .slice aa g.A.length ac, .slice ta g.T.length tc] 26)
  have HN := Lib.hid (nodes_ok _ g _ (h.below hb))
  by_cases h0 : i < 0
  · have e : outL g i = [] := by unfold outL; rw [if_neg (by omega)]
    rw [e]
    have HB := Lib.hid hb
    clear h hE hb
    go_enter Try.func26, Try.ntmps26
    go_wp2_with fail
    go_ret
    exact ⟨_, rfl, edgesAt_nil _, HB.out⟩
  · by_cases h1 : i < (nodesN g : Int)
    · have hR : Rt g := by
        cases hh : rightB g
        · rw [nodesN_not hh] at h1; omega
        · exact (rightB_iff g).1 hh
      have hn := nodesN_right hR
      obtain ⟨k, rfl⟩ : ∃ k : Nat, i = (k : Int) := ⟨i.toNat, by omega⟩
      have e : outL g k = span g k 1 := by unfold outL; rw [if_pos ⟨(rightB_iff g).2 hR, by omega, by omega⟩, span_one]; simp
      rw [e]
      clear e
      have HB := Lib.hid hb
      have HH := Lib.hid h
      have HR := Lib.hid hR
      have HE := Lib.hid hE
      have hk : k + 1 < g.S.length := by omega
      clear h hE hb hR hn
      go_enter Try.func26, Try.ntmps26
      go_wp2_with (first
        | (go_at_call 30; refine HN.out.mono ?_; rintro e w1 ⟨rfl, hb1⟩; have d0 := bkeep (balloc w1 (.cells #[.slice none 0 0] 22)) (bkeep hb1 (cell_of_block (heap_alloc_new w _) 0 _ rfl)); have d1 := bkeep (balloc w1 (.cells #[.slice none 0 0] 22)) (bkeep hb1 (cell_of_block (heap_alloc_new w _) 1 _ rfl)); have d2 := bkeep (balloc w1 (.cells #[.slice none 0 0] 22)) (bkeep hb1 (cell_of_block (heap_alloc_new w _) 2 _ rfl)); have d3 := bkeep hb1 (cell_of_block (heap_alloc_new w _) 0 _ rfl); have d4 := bkeep hb1 (cell_of_block (heap_alloc_new w _) 1 _ rfl); have d5 := bkeep hb1 (cell_of_block (heap_alloc_new w _) 2 _ rfl); have hs1 := hb1.size; have HB1 := Lib.hid (HB.out.trans (hb1.mono HB.out.size)); clear hb1)
        | (go_at_call 73; refine (each_app 74 HE.out app_ok74 HH.out HR.out (HB1.out.trans ((balloc w1 (.cells #[.slice none 0 0] 22)).mono HB1.out.size)) HB1.out.size (heap_alloc_new w1 _) k 1 ((k : Int) + 1) rfl hk).mono ?_; rintro e w2 ⟨rfl, v', q1, q2, q3⟩; have c2 := cell_of_block q1 0 _ rfl; have Q := Lib.hid (And.intro q2 q3); clear q1 q2 q3))
      go_ret
      exact ⟨_, rfl, Q.out⟩
    · have e : outL g i = [] := by
        unfold outL; rw [if_neg]
        rintro ⟨e1, e2, e3⟩
        rw [nodesN_right ((rightB_iff g).1 e1)] at h1; omega
      rw [e]
      have HB := Lib.hid hb
      clear h hE hb e
      go_enter Try.func26, Try.ntmps26
      go_wp2_with (first
        | (go_at_call 30; refine HN.out.mono ?_; rintro e w1 ⟨rfl, hb1⟩; have HB1 := Lib.hid (HB.out.trans (hb1.mono HB.out.size)); clear hb1))
      go_ret
      exact ⟨_, rfl, edgesAt_nil _, HB1.out⟩

set_option maxRecDepth 100000 in
set_option maxHeartbeats 4000000 in
theorem all_ok (v : Value) (g : Gr) (w : World) (h : GraphAt w v g) (hR : Rt g) : Calls Try.prog 32 #[v] w (EdgesBack w (allL g)) := by
  have h4 := h.sS
  have hE : Enters Try.prog 75 := enters_of Try.func75 (by kernel_rfl) rfl
  obtain ⟨sa, aa, ta, sc, ac, tc, rfl, -⟩ := h.var
  have e : allL g = span g 0 (g.S.length - 1) := by unfold allL; rw [if_pos ((rightB_iff g).2 hR)]
  rw [e]
  clear e
  have hb := (balloc w (.cells #[.slice sa g.S.length sc, .slice aa g.A.length ac, .slice ta g.T.length tc] 26)).trans ((balloc (w.alloc (.cells #[.slice sa g.S.length sc, .slice aa g.A.length ac, .slice ta g.T.length tc] 26)) (.cells #[.slice none 0 0] 22)).mono (by simp))
  have HN := fun w' (hw : Below w.heap.size w w') => nodes_ok _ g w' (h.below hw)
  have hn := nodesN_right hR
  have HB := Lib.hid hb
  have HH := Lib.hid h
  have HR := Lib.hid hR
  have HE := Lib.hid hE
  have HNN := Lib.hid HN
  have hne := hR.ne
  rw [← hn]
  have hk : 0 + nodesN g < g.S.length := by omega
  clear h hE hb hR hn HN
  have X0 := Lib.hid (fun i v h => cell_of_block (bheap (balloc _ (.cells #[.slice none 0 0] 22)) (heap_alloc_new w (.cells #[.slice sa g.S.length sc, .slice aa g.A.length ac, .slice ta g.T.length tc] 26))) i v h)
  have X1 := Lib.hid (heap_alloc_at (w.alloc (.cells #[.slice sa g.S.length sc, .slice aa g.A.length ac, .slice ta g.T.length tc] 26)) (.cells #[.slice none 0 0] 22) (w.heap.size + 1) (by simp))
  go_enter Try.func32, Try.ntmps32
  go_wp2_with fail
  go_region_with (first
    | (go_at_call 30; refine (HNN.out _ HB.out.drew).mono ?_; rintro e w1 ⟨rfl, hb1⟩; have d0 := bkeep hb1 (X0.out 0 _ rfl); have d1 := bkeep hb1 (X0.out 1 _ rfl); have d2 := bkeep hb1 (X0.out 2 _ rfl); have L := Lib.hid (bheap hb1 X1.out); have HB1 := Lib.hid (HB.out.drew.trans (hb1.mono HB.out.size)); clear hb1)
    | (go_at_call 73; refine (each_app 75 HE.out app_ok75 HH.out HR.out HB1.out (lv := w.heap.size + 1) (Nat.le_succ _) L.out 0 (nodesN g) _ (by simp) hk).mono ?_; rintro e w2 ⟨rfl, v', q1, q2, q3⟩; have c2 := cell_of_block q1 0 _ rfl; have Q := Lib.hid (And.intro q2 q3); clear q1 q2 q3))
  all_goals (go_wp2_with fail; go_ret; exact ⟨_, rfl, Q.out⟩)

set_option maxHeartbeats 1000000 in
theorem each_none (v f : Value) (g : Gr) (w : World) (h : GraphAt w v g) : Calls Try.prog 73 #[v, .int .i64 0, .int .i64 0, f] w fun e w' => e = .returned (.tuple #[]) ∧ Below w.heap.size w w' := by
  obtain ⟨sa, aa, ta, sc, ac, tc, rfl, -⟩ := h.var
  have HB := Lib.hid (balloc w (.cells #[.slice sa g.S.length sc, .slice aa g.A.length ac, .slice ta g.T.length tc] 26))
  clear h
  go_enter Try.func73, Try.ntmps73
  go_wp2_with fail
  go_loopg [8] 0 (fun fu i wr => i = .int .i64 0 ∧ Below w.heap.size w wr)
  case atStart => exact ⟨rfl, HB.out⟩
  case round =>
    obtain ⟨rfl, hb⟩ := hrel
    have HB2 := Lib.hid hb
    clear hb
    go_wp2_with fail
    go_end0
    exact ⟨rfl, HB2.out⟩

set_option maxRecDepth 100000 in
set_option maxHeartbeats 4000000 in
theorem all_none (v : Value) (g : Gr) (w : World) (h : GraphAt w v g) (hR : rightB g = false) : Calls Try.prog 32 #[v] w (EdgesBack w (allL g)) := by
  obtain ⟨sa, aa, ta, sc, ac, tc, rfl, -⟩ := h.var
  have e : allL g = [] := by unfold allL; rw [hR]; rfl
  rw [e]
  clear e
  have hb := (balloc w (.cells #[.slice sa g.S.length sc, .slice aa g.A.length ac, .slice ta g.T.length tc] 26)).trans ((balloc (w.alloc (.cells #[.slice sa g.S.length sc, .slice aa g.A.length ac, .slice ta g.T.length tc] 26)) (.cells #[.slice none 0 0] 22)).mono (by simp))
  have HN := fun w' (hw : Below w.heap.size w w') => nodes_ok _ g w' (h.below hw)
  have hn := nodesN_not hR
  rw [hn] at HN
  have HB := Lib.hid hb
  have HH := Lib.hid h
  have HNN := Lib.hid HN
  clear h hb hR hn HN
  have X0 := Lib.hid (fun i v h => cell_of_block (bheap (balloc _ (.cells #[.slice none 0 0] 22)) (heap_alloc_new w (.cells #[.slice sa g.S.length sc, .slice aa g.A.length ac, .slice ta g.T.length tc] 26))) i v h)
  have X1 := Lib.hid (heap_alloc_at (w.alloc (.cells #[.slice sa g.S.length sc, .slice aa g.A.length ac, .slice ta g.T.length tc] 26)) (.cells #[.slice none 0 0] 22) (w.heap.size + 1) (by simp))
  go_enter Try.func32, Try.ntmps32
  go_wp2_with fail
  go_region_with (first
    | (go_at_call 30; refine (HNN.out _ HB.out.drew).mono ?_; rintro e w1 ⟨rfl, hb1⟩; have d0 := bkeep hb1 (X0.out 0 _ rfl); have d1 := bkeep hb1 (X0.out 1 _ rfl); have d2 := bkeep hb1 (X0.out 2 _ rfl); have L := Lib.hid (bheap hb1 X1.out); have HB1 := Lib.hid (HB.out.drew.trans (hb1.mono HB.out.size)); clear hb1)
    | (go_at_call 73; refine (each_none _ _ g _ (HH.out.below HB1.out)).mono ?_; rintro e w2 ⟨rfl, q3⟩; have c2 := cell_of_block (bheap q3 L.out) 0 _ rfl; have Q := Lib.hid (HB1.out.trans (q3.mono HB1.out.size)); clear q3))
  all_goals (go_wp2_with fail; go_ret; exact ⟨_, rfl, edgesAt_nil _, Q.out⟩)
theorem all_any (v : Value) (g : Gr) (w : World) (h : GraphAt w v g) : Calls Try.prog 32 #[v] w (EdgesBack w (allL g)) := by
  cases hr : rightB g
  · exact all_none v g w h hr
  · exact all_ok v g w h ((rightB_iff g).1 hr)
end Go.Proofs.Ytnlaonppgebpoaa
