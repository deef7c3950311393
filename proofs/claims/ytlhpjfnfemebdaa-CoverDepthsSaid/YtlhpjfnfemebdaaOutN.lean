/-
  edges: Out, in a row of its own.
-/
import Derived.Test.YtlhpjfnfemebdaaJMachT
namespace Go.Proofs.Ytlhpjfnfemebdaa
open Go.RowKit
theorem own_basec {w : World} {base base' : Nat} {e : TypeId} {size : Nat} {v : Value} {n : Nat} {xs : List Value} (h : w.ownsRow base e size v n xs) (hb : base' ≤ base) : w.ownsRow base' e size v n xs := by
 obtain ⟨l, r⟩ := h
 refine ⟨l, ?_⟩
 rcases r with r | ⟨g, cap, cur, e, hbg, r⟩
 ·exact .inl r
 ·exact .inr ⟨g, cap, cur, e, by omega, r⟩
theorem each_appN (N : Nat) (hE : Enters Try.prog N)
  (hcl : ∀ (W : World) (lv : Nat) (l : List Ed) (x y z : Int) (w : World), lv < W.heap.size → App W lv l w → l.length < 1000000 →
   Calls Try.prog N #[.agg #[.int .i64 x, .int .i64 y, .int .i64 z], .pointer (some ⟨lv, 0, none⟩)] w fun e w' => e = .returned (.tuple #[]) ∧ App W lv (l ++ [(x, y, z)]) w')
  {g : Gr} {v : Value} {w w2 : World} {lv : Nat} (hg : GraphAt w v g) (hR : Rt g) (hb : Below w.heap.size w w2) (hlv : w.heap.size ≤ lv) (hl2 : w2.heap[lv]? = some (.cells #[.slice none 0 0] 62 (0, 0)))
  (a m : Nat) (b : Int) (hab : b = (a : Int) + (m : Int)) (ham : a + m < g.S.length) :
  Calls Try.prog 47 #[v, .int .i64 (a : Nat), .int .i64 b, .func (.func N) #[] #[.pointer (some ⟨lv, 0, none⟩)]] w2 fun e w' => e = .returned (.tuple #[]) ∧
   ∃ v', w'.heap[lv]? = some (.cells #[v'] 62 (0, 0)) ∧ w'.ownsRow w.heap.size 65 3 v' (span g a m).length (edCells (span g a m)) ∧ Below w.heap.size w w' := by
 have h4 := hg.sS
 have h6 := hg.sT
 obtain ⟨sa, aa, ta, sc, ac, tc, rfl, -⟩ := hg.var
 have hlt : lv < w2.heap.size := (Array.getElem?_eq_some_iff.1 hl2).1
 have hbx := balloc w2 (.cells #[.slice sa g.S.length sc, .slice aa g.A.length ac, .slice ta g.T.length tc] 30)
 have hBel : ∀ (F : Nat → Prop) w', (∀ k, F k → w.heap.size ≤ k) → Frm F (w2.alloc (.cells #[.slice sa g.S.length sc, .slice aa g.A.length ac, .slice ta g.T.length tc] 30)) w' → Below w.heap.size w w' := fun F w' hF hf =>
  (hb.trans (hbx.mono hb.size)).trans (hf.below hF (by have := hb.size; simp; omega))
 refine (each_ok hR h4 h6 N hE _ a m b hab ham (fun pre w' => App (w2.alloc (.cells #[.slice sa g.S.length sc, .slice aa g.A.length ac, .slice ta g.T.length tc] 30)) lv pre w') ?_ ?_ ?_ ?_).mono ?_
 ·intro pre w' h
  refine gvar_of hg (hBel _ w' (fun k hk => by subst hk; exact hlv) h.frm) ?_
  exact h.frm.heap (heap_alloc_new w2 _) (by show w2.heap.size ≠ lv; omega)
 ·exact ⟨Frm.refl _ _, .slice none 0 0, bheap hbx hl2, ⟨rfl, .inl ⟨rfl, rfl⟩⟩⟩
 ·exact fun pre w' h => h.drew
 ·intro pre i k w' h _ _ _ _ hp
  have e : #[Value.agg #[.int .i64 (i : Nat), .int .i64 (g.A.getD k 0), .int .i64 (g.T.getD k 0)]] ++ #[Value.pointer (some ⟨lv, 0, none⟩)] = #[Value.agg #[.int .i64 (i : Nat), .int .i64 (g.A.getD k 0), .int .i64 (g.T.getD k 0)], Value.pointer (some ⟨lv, 0, none⟩)] := by simp
  rw [e]
  exact hcl _ lv pre _ _ _ w' (by simp; omega) h (by omega)
 ·rintro e w' ⟨rfl, h⟩
  obtain ⟨hf, v', h1, h2⟩ := h
  exact ⟨rfl, v', h1, own_basec h2 (by have := hb.size; simp; omega), hBel _ w' (fun k hk => by subst hk; exact hlv) hf⟩
set_option maxRecDepth 100000 in
set_option maxHeartbeats 4000000 in
theorem out_new (v : Value) (g : Gr) (i : Int) (w : World) (h : GraphAt w v g) : Calls Try.prog 31 #[v, .int .i64 i] w (EdgesOwn w (outL g i)) := by
 have h4 := h.sS
 have hE : Enters Try.prog 51 := enters_of Try.func51 (by kernel_rfl) rfl
 obtain ⟨sa, aa, ta, sc, ac, tc, rfl, -⟩ := h.var
 have hb := balloc w (.cells #[.slice sa g.S.length sc, .slice aa g.A.length ac, .slice ta g.T.length tc] 30)
 have HN := Lib.hid (nodes_ok _ g _ (h.below hb))
 by_cases h0 : i < 0
 ·have e : outL g i = [] := by unfold outL; rw [if_neg (by omega)]
  rw [e]
  have HB := Lib.hid hb
  clear h hE hb
  go_enter Try.func31, Try.ntmps31
  go_wp2_with fail
  go_ret
  exact ⟨_, rfl, World.ownsRow_nil _ _ _ _, HB.out⟩
 ·by_cases h1 : i < (nodesN g : Int)
  ·have hR : Rt g := by
    cases hh : rightB g
    ·rw [nodesN_not hh] at h1; omega
    ·exact (rightB_iff g).1 hh
   have hn := nodesN_right hR
   obtain ⟨k, rfl⟩ : ∃ k : Nat, i = (k : Int) := ⟨i.toNat, by omega⟩
   have e : outL g k = span g k 1 := by unfold outL; rw [if_pos ⟨(rightB_iff g).2 hR, by omega, by omega⟩, span_one]; simp
   rw [e]
   clear e
   have HB := Lib.hid hb
   have HH := Lib.hid h
   have HR := Lib.hid hR
   have HE := Lib.hid hE
   have hk : k + 1 < g.S.length := by omega
   clear h hE hb hR hn
   go_enter Try.func31, Try.ntmps31
   go_wp2_with (first
    | (go_at_call 48; refine HN.out.mono ?_; rintro e w1 ⟨rfl, hb1⟩; have d0 := bkeep (balloc w1 (.cells #[.slice none 0 0] 62)) (bkeep hb1 (cell_of_block (heap_alloc_new w _) 0 _ rfl)); have d1 := bkeep (balloc w1 (.cells #[.slice none 0 0] 62)) (bkeep hb1 (cell_of_block (heap_alloc_new w _) 1 _ rfl)); have d2 := bkeep (balloc w1 (.cells #[.slice none 0 0] 62)) (bkeep hb1 (cell_of_block (heap_alloc_new w _) 2 _ rfl)); have d3 := bkeep hb1 (cell_of_block (heap_alloc_new w _) 0 _ rfl); have d4 := bkeep hb1 (cell_of_block (heap_alloc_new w _) 1 _ rfl); have d5 := bkeep hb1 (cell_of_block (heap_alloc_new w _) 2 _ rfl); have hs1 := hb1.size; have HB1 := Lib.hid (HB.out.trans (hb1.mono HB.out.size)); clear hb1)
    | (go_at_call 47; refine (each_appN 51 HE.out app_ok74 HH.out HR.out (HB1.out.trans ((balloc w1 (.cells #[.slice none 0 0] 62)).mono HB1.out.size)) HB1.out.size (heap_alloc_new w1 _) k 1 ((k : Int) + 1) rfl hk).mono ?_; rintro e w2 ⟨rfl, v', q1, q2, q3⟩; have c2 := cell_of_block q1 0 _ rfl; have Q := Lib.hid (And.intro q2 q3); clear q1 q2 q3))
   go_ret
   exact ⟨_, rfl, Q.out⟩
  ·have e : outL g i = [] := by
    unfold outL; rw [if_neg]
    rintro ⟨e1, e2, e3⟩
    rw [nodesN_right ((rightB_iff g).1 e1)] at h1; omega
   rw [e]
   have HB := Lib.hid hb
   clear h hE hb e
   go_enter Try.func31, Try.ntmps31
   go_wp2_with (first
    | (go_at_call 48; refine HN.out.mono ?_; rintro e w1 ⟨rfl, hb1⟩; have HB1 := Lib.hid (HB.out.trans (hb1.mono HB.out.size)); clear hb1))
   go_ret
   exact ⟨_, rfl, World.ownsRow_nil _ _ _ _, HB1.out⟩
set_option maxRecDepth 100000 in
set_option maxHeartbeats 4000000 in
theorem all_new (v : Value) (g : Gr) (w : World) (h : GraphAt w v g) (hR : Rt g) : Calls Try.prog 29 #[v] w (EdgesOwn w (allL g)) := by
 have h4 := h.sS
 have hE : Enters Try.prog 49 := enters_of Try.func49 (by kernel_rfl) rfl
 obtain ⟨sa, aa, ta, sc, ac, tc, rfl, -⟩ := h.var
 have e : allL g = span g 0 (g.S.length - 1) := by unfold allL; rw [if_pos ((rightB_iff g).2 hR)]
 rw [e]
 clear e
 have hb := (balloc w (.cells #[.slice sa g.S.length sc, .slice aa g.A.length ac, .slice ta g.T.length tc] 30)).trans ((balloc (w.alloc (.cells #[.slice sa g.S.length sc, .slice aa g.A.length ac, .slice ta g.T.length tc] 30)) (.cells #[.slice none 0 0] 62)).mono (by simp))
 have HN := fun w' (hw : Below w.heap.size w w') => nodes_ok _ g w' (h.below hw)
 have hn := nodesN_right hR
 have HB := Lib.hid hb
 have HH := Lib.hid h
 have HR := Lib.hid hR
 have HE := Lib.hid hE
 have HNN := Lib.hid HN
 have hne := hR.ne
 rw [← hn]
 have hk : 0 + nodesN g < g.S.length := by omega
 clear h hE hb hR hn HN
 have X0 := Lib.hid (fun i v h => cell_of_block (bheap (balloc _ (.cells #[.slice none 0 0] 62)) (heap_alloc_new w (.cells #[.slice sa g.S.length sc, .slice aa g.A.length ac, .slice ta g.T.length tc] 30))) i v h)
 have X1 := Lib.hid (heap_alloc_at (w.alloc (.cells #[.slice sa g.S.length sc, .slice aa g.A.length ac, .slice ta g.T.length tc] 30)) (.cells #[.slice none 0 0] 62) (w.heap.size + 1) (by simp))
 go_enter Try.func29, Try.ntmps29
 go_wp2_with fail
 go_region_with (first
  | (go_at_call 48; refine (HNN.out _ HB.out.drew).mono ?_; rintro e w1 ⟨rfl, hb1⟩; have d0 := bkeep hb1 (X0.out 0 _ rfl); have d1 := bkeep hb1 (X0.out 1 _ rfl); have d2 := bkeep hb1 (X0.out 2 _ rfl); have L := Lib.hid (bheap hb1 X1.out); have HB1 := Lib.hid (HB.out.drew.trans (hb1.mono HB.out.size)); clear hb1)
  | (go_at_call 47; refine (each_appN 49 HE.out app_ok75 HH.out HR.out HB1.out (lv := w.heap.size + 1) (Nat.le_succ _) L.out 0 (nodesN g) _ (by simp) hk).mono ?_; rintro e w2 ⟨rfl, v', q1, q2, q3⟩; have c2 := cell_of_block q1 0 _ rfl; have Q := Lib.hid (And.intro q2 q3); clear q1 q2 q3))
 all_goals (go_wp2_with fail; go_ret; exact ⟨_, rfl, Q.out⟩)
end Go.Proofs.Ytlhpjfnfemebdaa
