/-
  The reference's Back.
-/
import Derived.Test.YtnlaonppgebpoaaMade2
import Derived.Test.YtnlaonppgebpoaaROut
namespace Go.Proofs.Ytnlaonppgebpoaa
open Go.RowKit

theorem edCells_set : ∀ (l : List Ed) (k : Nat) (e : Ed), edCells (l.set k e) = (((edCells l).set (k * 3) (.int .i64 e.1)).set (k * 3 + 1) (.int .i64 e.2.1)).set (k * 3 + 2) (.int .i64 e.2.2)
  | [], k, e => by simp [edCells]
  | x :: l, 0, e => by simp [edCells]
  | x :: l, k + 1, e => by
    have ih := edCells_set l k e
    have e0 : (k + 1) * 3 = k * 3 + 3 := by omega
    rw [e0]
    simp only [edCells, List.set_cons_succ, List.flatMap_cons] at ih ⊢
    rw [ih]
    simp
/-- one edge of an own row overwritten -/
theorem ownsRow_put {w : World} {base g cap n : Nat} {l : List Ed} (h : w.ownsRow base 44 3 (.slice (some ⟨g, 0, none⟩) n cap) n (edCells l)) (k : Nat) (e : Ed) :
    (((w.setCell ⟨g, k * 3, none⟩ (.int .i64 e.1)).setCell ⟨g, k * 3 + 1, none⟩ (.int .i64 e.2.1)).setCell ⟨g, k * 3 + 2, none⟩ (.int .i64 e.2.2)).ownsRow base 44 3 (.slice (some ⟨g, 0, none⟩) n cap) n (edCells (l.set k e)) ∧
    Frm (fun q => q = g) w (((w.setCell ⟨g, k * 3, none⟩ (.int .i64 e.1)).setCell ⟨g, k * 3 + 1, none⟩ (.int .i64 e.2.1)).setCell ⟨g, k * 3 + 2, none⟩ (.int .i64 e.2.2)) := by
  obtain ⟨hl, h2⟩ := h
  rcases h2 with ⟨hv, -⟩ | ⟨g', cap', cur, hv, hb, hg, hn, hc, hs, ht⟩
  · cases hv
  cases hv
  refine ⟨⟨by rw [edCells_len, List.length_set, ← edCells_len]; exact hl, .inr ⟨g, cap, ((cur.setIfInBounds (k * 3) (.int .i64 e.1)).setIfInBounds (k * 3 + 1) (.int .i64 e.2.1)).setIfInBounds (k * 3 + 2) (.int .i64 e.2.2), rfl, hb, ?_, hn, hc, by simpa using hs, ?_⟩⟩, ?_⟩
  · exact heap_setCell_block (heap_setCell_block (heap_setCell_block hg _ _) _ _) _ _
  · rw [edCells_set, ← ht]
    simp only [Array.toList_setIfInBounds, List.take_set]
  · exact (((Frm.refl (fun q => q = g) w).setCell (p := ⟨g, k * 3, none⟩) (fun _ => rfl) _).setCell (p := ⟨g, k * 3 + 1, none⟩) (fun _ => rfl) _).setCell (p := ⟨g, k * 3 + 2, none⟩) (fun _ => rfl) _
theorem ownsRow_at {w : World} {base g cap n : Nat} {l : List Ed} (h : w.ownsRow base 44 3 (.slice (some ⟨g, 0, none⟩) n cap) n (edCells l)) (hn : l.length = n) (k : Nat) (hk : k < n) :
    w.cell? ⟨g, k * 3, none⟩ = some (.int .i64 (l.getD k (0, 0, 0)).1) ∧ w.cell? ⟨g, k * 3 + 1, none⟩ = some (.int .i64 (l.getD k (0, 0, 0)).2.1) ∧ w.cell? ⟨g, k * 3 + 2, none⟩ = some (.int .i64 (l.getD k (0, 0, 0)).2.2) ∧
    w.frozen? ⟨g, k * 3, none⟩ = false ∧ w.frozen? ⟨g, k * 3 + 1, none⟩ = false ∧ w.frozen? ⟨g, k * 3 + 2, none⟩ = false := by
  obtain ⟨hl, h2⟩ := h
  rcases h2 with ⟨hv, -⟩ | ⟨g', cap', cur, hv, hb, hg, hn', hc, hs, ht⟩
  · cases hv
  cases hv
  obtain ⟨e1, e2, e3⟩ := edCells_get l k (by omega)
  rw [← ht, List.getElem?_take] at e1 e2 e3
  rw [if_pos (by omega)] at e1 e2 e3
  exact ⟨cell_of_block hg _ _ (by simpa using e1), cell_of_block hg _ _ (by simpa using e2), cell_of_block hg _ _ (by simpa using e3), free_of_block hg _, free_of_block hg _, free_of_block hg _⟩

def swapL (l : List Ed) (k : Nat) : List Ed := (l.take k).map (fun e => (e.2.2, e.2.1, e.1)) ++ l.drop k
theorem swapL_len (l : List Ed) (k : Nat) : (swapL l k).length = l.length := by unfold swapL; simp; omega
theorem swapL_get (l : List Ed) (k : Nat) (hk : k < l.length) : (swapL l k).getD k (0, 0, 0) = l.getD k (0, 0, 0) := by
  unfold swapL
  simp only [List.getD]
  rw [List.getElem?_append_right (by simp; omega)]
  simp [hk, Nat.min_eq_left (Nat.le_of_lt hk)]
theorem swapL_set (l : List Ed) (k : Nat) (hk : k < l.length) : (swapL l k).set k ((l.getD k (0, 0, 0)).2.2, (l.getD k (0, 0, 0)).2.1, (l.getD k (0, 0, 0)).1) = swapL l (k + 1) := by
  unfold swapL
  have e : l.getD k (0, 0, 0) = l[k] := by simp [List.getD, hk]
  rw [e, List.set_append_right _ _ (by simp; omega), List.take_add_one, List.getElem?_eq_getElem hk, Option.toList_some, List.map_append, List.append_assoc]
  have hl : ((l.take k).map (fun e : Ed => (e.2.2, e.2.1, e.1))).length = k := by simp; omega
  rw [hl, Nat.sub_self, List.drop_eq_getElem_cons hk]
  rfl
theorem swapL_end (l : List Ed) : swapL l l.length = tellL swapE l := by
  unfold swapL tellL
  have e : l.filter (fun e => (swapE e).2) = l := List.filter_eq_self.2 (fun _ _ => rfl)
  rw [e, List.take_length, List.drop_length, List.append_nil]
  rfl
/-- two variables: the graph, the result -/
structure BkSt (w wr : World) (gc : Array Value) : Prop where
  below : Below w.heap.size w wr
  vg : wr.heap[w.heap.size]? = some (.cells gc 26 (0, 0))
  vr : wr.heap[w.heap.size + 1]? = some (.cells #[.slice none 0 0, .slice none 0 0, .slice none 0 0] 26 (0, 0))
theorem BkSt.size {w wr : World} {gc : Array Value} (h : BkSt w wr gc) : w.heap.size + 1 < wr.heap.size := (Array.getElem?_eq_some_iff.1 h.vr).1
theorem BkSt.more {w wr w' : World} {gc : Array Value} (h : BkSt w wr gc) (hb : Below wr.heap.size wr w') : BkSt w w' gc := ⟨h.below.trans (hb.mono h.below.size), bheap hb h.vg, bheap hb h.vr⟩
theorem BkSt.drew {w wr : World} {gc : Array Value} (h : BkSt w wr gc) : BkSt w wr.drew gc := ⟨h.below.drew, h.vg, h.vr⟩
theorem BkSt.frm {w wr w' : World} {gc : Array Value} (h : BkSt w wr gc) {F : Nat → Prop} (hf : Frm F wr w') (hF : ∀ q, F q → w.heap.size + 1 < q) : BkSt w w' gc :=
  ⟨h.below.trans (hf.below (fun k hk => by have := hF k hk; omega) h.below.size), hf.heap h.vg (fun e => by have := hF _ e; omega), hf.heap h.vr (fun e => by have := hF _ e; omega)⟩
theorem bkst_start (w : World) (gc : Array Value) : BkSt w ((w.alloc (.cells gc 26)).alloc (.cells #[.slice none 0 0, .slice none 0 0, .slice none 0 0] 26)) gc :=
  ⟨((Below.refl _ _).alloc (Nat.le_refl _) _).alloc (by simp) _, bheap (balloc _ _) (heap_alloc_new w _), heap_alloc_at _ _ _ (by simp)⟩
theorem BkSt.ret {w wr : World} {gc : Array Value} {G : Gr} {a1 a2 a3 : Option Addr} {n1 n2 n3 c1 c2 c3 : Nat} (h : BkSt w wr gc) (hG : GraphAt wr (.agg #[.slice a1 n1 c1, .slice a2 n2 c2, .slice a3 n3 c3]) G) :
    (((wr.setCell ⟨w.heap.size + 1, 0, none⟩ (.slice a1 n1 c1)).setCell ⟨w.heap.size + 1, 1, none⟩ (.slice a2 n2 c2)).setCell ⟨w.heap.size + 1, 2, none⟩ (.slice a3 n3 c3)).cell? ⟨w.heap.size + 1, 0, none⟩ = some (.slice a1 n1 c1) ∧
    (((wr.setCell ⟨w.heap.size + 1, 0, none⟩ (.slice a1 n1 c1)).setCell ⟨w.heap.size + 1, 1, none⟩ (.slice a2 n2 c2)).setCell ⟨w.heap.size + 1, 2, none⟩ (.slice a3 n3 c3)).cell? ⟨w.heap.size + 1, 1, none⟩ = some (.slice a2 n2 c2) ∧
    (((wr.setCell ⟨w.heap.size + 1, 0, none⟩ (.slice a1 n1 c1)).setCell ⟨w.heap.size + 1, 1, none⟩ (.slice a2 n2 c2)).setCell ⟨w.heap.size + 1, 2, none⟩ (.slice a3 n3 c3)).cell? ⟨w.heap.size + 1, 2, none⟩ = some (.slice a3 n3 c3) ∧
    GraphAt (((wr.setCell ⟨w.heap.size + 1, 0, none⟩ (.slice a1 n1 c1)).setCell ⟨w.heap.size + 1, 1, none⟩ (.slice a2 n2 c2)).setCell ⟨w.heap.size + 1, 2, none⟩ (.slice a3 n3 c3)) (.agg #[.slice a1 n1 c1, .slice a2 n2 c2, .slice a3 n3 c3]) G ∧
    Below w.heap.size w (((wr.setCell ⟨w.heap.size + 1, 0, none⟩ (.slice a1 n1 c1)).setCell ⟨w.heap.size + 1, 1, none⟩ (.slice a2 n2 c2)).setCell ⟨w.heap.size + 1, 2, none⟩ (.slice a3 n3 c3)) := by
  obtain ⟨q1, q2, q3, q4⟩ := ret3 h.vr (.slice a1 n1 c1) (.slice a2 n2 c2) (.slice a3 n3 c3)
  exact ⟨q1, q2, q3, hG.off h.vr q4, h.below.trans (q4.below (fun k hk => by omega) h.below.size)⟩

set_option maxRecDepth 100000 in
set_option maxHeartbeats 4000000 in
theorem rback_not (v : Value) (g : Gr) (w : World) (h : GraphAt w v g) (hR : rightB g = false) : Calls Try.prog 35 #[v] w (GraphBack w (backG g)) := by
  unfold backG
  rw [madeG_not hR]
  obtain ⟨sa, aa, ta, sc, ac, tc, rfl, -⟩ := h.var
  have hs := bkst_start w #[.slice sa g.S.length sc, .slice aa g.A.length ac, .slice ta g.T.length tc]
  have HN := Lib.hid (rright_ok _ g _ (h.below hs.below))
  rw [hR] at HN
  have HS := Lib.hid hs
  clear h hR hs
  go_enter Try.func35, Try.ntmps35
  go_wp2_with (first
    | (go_at_call 29; refine HN.out.mono ?_; rintro e w1 ⟨rfl, hb1⟩; have hs1 := HS.out.more hb1; have r0 := cell_of_block hs1.vr 0 _ rfl; have r1 := cell_of_block hs1.vr 1 _ rfl; have r2 := cell_of_block hs1.vr 2 _ rfl; have g0 := free_of_block hs1.vr 0; have g1 := free_of_block hs1.vr 1; have g2 := free_of_block hs1.vr 2; have HS1 := Lib.hid hs1; clear hb1 hs1))
  obtain ⟨q1, q2, q3, q4, q5⟩ := HS1.out.ret (graphAt_nil _)
  refine bodyPost_ret (v := .agg #[.slice none 0 0, .slice none 0 0, .slice none 0 0]) (by simp [results, Try.results35, go_sem, q1, q2, q3]) rfl ?_
  exact ⟨_, rfl, q4, q5⟩

set_option maxRecDepth 100000 in
set_option maxHeartbeats 8000000 in
theorem rback_right (v : Value) (g : Gr) (w : World) (h : GraphAt w v g) (hR : Rt g) : Calls Try.prog 35 #[v] w (GraphBack w (backG g)) := by
  unfold backG
  rw [madeG_right hR, ← swapL_end]
  obtain ⟨sa, aa, ta, sc, ac, tc, rfl, -⟩ := h.var
  have hs := bkst_start w #[.slice sa g.S.length sc, .slice aa g.A.length ac, .slice ta g.T.length tc]
  have HN := Lib.hid (rright_ok _ g _ (h.below hs.below))
  have HA := Lib.hid (fun w' (hw : Below w.heap.size w w') => rall_own _ g w' (h.below hw))
  have HNN := Lib.hid (fun w' (hw : Below w.heap.size w w') => rnodes_ok _ g w' (h.below hw))
  rw [(rightB_iff g).2 hR] at HN
  have hll : (allL g).length ≤ 1000000 := by rw [allL_len hR]; exact h.sT
  have HS := Lib.hid hs
  clear h hR hs
  generalize allL g = l at *
  generalize nodesN g = nn at *
  obtain ⟨n, hn⟩ : ∃ n, l.length = n := ⟨_, rfl⟩
  rw [hn]
  have HLN := Lib.hid hn
  clear hn
  go_enter Try.func35, Try.ntmps35
  go_wp2_with (first
    | (go_at_call 29; refine HN.out.mono ?_; rintro e w1 ⟨rfl, hb1⟩; have hs1 := HS.out.more hb1; have a0 := cell_of_block hs1.vg 0 _ rfl; have a1 := cell_of_block hs1.vg 1 _ rfl; have a2 := cell_of_block hs1.vg 2 _ rfl; have HS1 := Lib.hid hs1; have hz1 := hs1.size; clear hb1 hs1)
    | (go_at_call 33; refine (HA.out _ HS1.out.below).mono ?_; rintro e w2 ⟨lv, rfl, ho, hb2⟩; have HS2 := Lib.hid (HS1.out.more hb2); have HO := Lib.hid ho; have hlv : ∃ a cap, lv = .slice a l.length cap := (by rcases ho.2 with ⟨e, h0⟩ | ⟨g, cap, cur, e, -⟩; exact ⟨none, 0, by rw [e, h0]⟩; exact ⟨_, cap, e⟩); obtain ⟨la, lc, rfl⟩ := hlv; clear ho hb2 a0 a1 a2))
  have hn := HLN.out
  have HO0 : Hid (w2.ownsRow w1.heap.size 44 3 (.slice la n lc) n (edCells (swapL l 0))) := Lib.hid (by have := HO.out; rw [hn] at this; simpa [swapL] using this)
  rw [hn] at hll
  rw [hn]
  clear HO
  clear hn
  go_loopg [4] n (fun fu c wr => ∃ k : Nat, k + fu = n ∧ c = .int .i64 k ∧ BkSt w wr #[.slice sa g.S.length sc, .slice aa g.A.length ac, .slice ta g.T.length tc] ∧ wr.ownsRow w1.heap.size 44 3 (.slice la n lc) n (edCells (swapL l k)))
  case atStart => exact ⟨0, by omega, rfl, HS2.out, HO0.out⟩
  case round =>
    clear HO0 HS2
    obtain ⟨k, hk, rfl, hS, ho⟩ := hrel
    by_cases hlt : k < n
    · have hla : ∃ gg, la = some ⟨gg, 0, none⟩ ∧ w1.heap.size ≤ gg := by
        rcases ho.2 with ⟨e, h0⟩ | ⟨g, cap, cur, e, hg, -⟩
        · omega
        · simp at e; exact ⟨g, e.1, hg⟩
      obtain ⟨gg, rfl, hgg⟩ := hla
      have hlen := HLN.out
      obtain ⟨y1, y2, y3, f1, f2, f3⟩ := ownsRow_at ho (by rw [swapL_len]; exact hlen) k hlt
      rw [swapL_get l k (by omega)] at y1 y2 y3
      have hset := swapL_set l k (by omega)
      generalize l.getD k (0, 0, 0) = e at *
      obtain ⟨x, y, z⟩ := e
      obtain ⟨o1, o2⟩ := ownsRow_put ho k (z, y, x)
      rw [hset] at o1
      have HO1 := Lib.hid o1
      have HS1 := Lib.hid (hS.frm o2 (fun q hq => by omega))
      have b1 : (k : Int) < (n : Int) := by omega
      clear ho hS o1 o2 hset hlen
      go_wp2_with fail
      refine region_tail 19 (by kernel_rfl) (by kernel_rfl) ?_
      simp only [List.take_succ_cons, List.take_zero, List.drop_succ_cons, List.drop_zero]
      repeat still_step
      refine wpStill_nil ?_
      go_wp2_with fail
      go_roundg (gk - 1)
      case measure => omega
      case rel => exact ⟨k + 1, by omega, by simp, HS1.out.drew, HO1.out⟩
    · obtain rfl : gk = 0 := by omega
      obtain rfl : k = n := by omega
      have HE := Lib.hid (ownsRow_edges (l := swapL l k) (by rw [swapL_len, HLN.out]; exact ho))
      have HS3 := Lib.hid hS
      have a0 := cell_of_block hS.vg 0 _ rfl
      have a1 := cell_of_block hS.vg 1 _ rfl
      have a2 := cell_of_block hS.vg 2 _ rfl
      have HLL : Hid ((swapL l k).length ≤ 1000000) := Lib.hid (by rw [swapL_len, HLN.out]; exact hll)
      clear ho hS
      go_wp2_with (first
        | (go_at_call 31; refine (HNN.out _ HS3.out.below).mono ?_; rintro e w4 ⟨rfl, hb4⟩; have HS4 := Lib.hid (HS3.out.more hb4); have HE4 := Lib.hid (HE.out.below hb4); clear hb4)
        | (go_at_call 22; refine (rbuild_any _ _ _ _ HE4.out HLL.out).mono ?_; rintro e w5 ⟨v5, rfl, hG, hb5⟩; have hs6 := (HS4.out.more hb5); obtain ⟨s1, s2, s3, c1, c2, c3, rfl, -⟩ := hG.var; have HG := Lib.hid hG; have HS5 := Lib.hid hs6; have hz5 := hs6.size; have r0 := cell_of_block hs6.vr 0 _ rfl; have r1 := cell_of_block hs6.vr 1 _ rfl; have r2 := cell_of_block hs6.vr 2 _ rfl; have g0 := free_of_block hs6.vr 0; have g1 := free_of_block hs6.vr 1; have g2 := free_of_block hs6.vr 2; clear hb5 hG hs6))
      obtain ⟨q1, q2, q3, q4, q5⟩ := HS5.out.ret HG.out
      have t1 := bkeep (balloc _ (.cells #[.slice s1 (buildG (nn : Nat) (swapL l k)).S.length c1, .slice s2 (buildG (nn : Nat) (swapL l k)).A.length c2, .slice s3 (buildG (nn : Nat) (swapL l k)).T.length c3] 26)) q1
      have t2 := bkeep (balloc _ (.cells #[.slice s1 (buildG (nn : Nat) (swapL l k)).S.length c1, .slice s2 (buildG (nn : Nat) (swapL l k)).A.length c2, .slice s3 (buildG (nn : Nat) (swapL l k)).T.length c3] 26)) q2
      have t3 := bkeep (balloc _ (.cells #[.slice s1 (buildG (nn : Nat) (swapL l k)).S.length c1, .slice s2 (buildG (nn : Nat) (swapL l k)).A.length c2, .slice s3 (buildG (nn : Nat) (swapL l k)).T.length c3] 26)) q3
      refine bodyPost_ret (v := .agg #[.slice s1 (buildG (nn : Nat) (swapL l k)).S.length c1, .slice s2 (buildG (nn : Nat) (swapL l k)).A.length c2, .slice s3 (buildG (nn : Nat) (swapL l k)).T.length c3]) (by simp [results, Try.results35, go_sem, t1, t2, t3]) rfl ?_
      exact ⟨_, rfl, q4.below (balloc _ _), q5.trans ((balloc _ _).mono q5.size)⟩
theorem rback_ok (v : Value) (g : Gr) (w : World) (h : GraphAt w v g) : Calls Try.prog 35 #[v] w (GraphBack w (backG g)) := by
  cases hr : rightB g
  · exact rback_not v g w h hr
  · exact rback_right v g w h ((rightB_iff g).1 hr)
end Go.Proofs.Ytnlaonppgebpoaa
