/-
  edges.each: it hands on each edge to whatever closure. The closures that append an edge to what they captured: edges.Out$1, All$1. (Written by gen_app.py.)
-/
import Derived.Deep.AppendLies
import Derived.Shelf.Abstract
import Derived.Test.YtlhpjfnfemebdaaRight
namespace Go.Proofs.Ytlhpjfnfemebdaa
open Go.RowKit
set_option maxRecDepth 100000 in
set_option maxHeartbeats 4000000 in
theorem each_ok {g : Gr} {w : World} {sa aa ta : Option Addr} {sc ac tc : Nat} (hR : Rt g) (hS : g.S.length ≤ 1000000) (hT : g.T.length ≤ 1000000) (N : Nat) (hE : Enters Try.prog N) (caps : Array Value)
  (a m : Nat) (b : Int) (hb : b = (a : Int) + (m : Int)) (hab : a + m < g.S.length) (I : List Ed → World → Prop)
  (hv : ∀ pre w', I pre w' → GVar w' w.heap.size sa aa ta sc ac tc g)
  (h0 : I [] (w.alloc (.cells #[.slice sa g.S.length sc, .slice aa g.A.length ac, .slice ta g.T.length tc] 30)))
  (hd : ∀ pre w', I pre w' → I pre w'.drew)
  (hs : ∀ pre i k w', I pre w' → a ≤ i → i < a + m → st g i ≤ k → k < st g (i + 1) → pre.length < g.T.length →
   Calls Try.prog N (#[.agg #[.int .i64 (i : Nat), .int .i64 (g.A.getD k 0), .int .i64 (g.T.getD k 0)]] ++ caps) w' fun e w'' => e = .returned (.tuple #[]) ∧ I (pre ++ [edge g i k]) w'') :
  Calls Try.prog 47 #[.agg #[.slice sa g.S.length sc, .slice aa g.A.length ac, .slice ta g.T.length tc], .int .i64 (a : Nat), .int .i64 b, .func (.func N) #[] caps] w
   fun e w' => e = .returned (.tuple #[]) ∧ I (span g a m) w' := by
 have HR := Lib.hid hR
 have HV := Lib.hid hv
 have H0 := Lib.hid h0
 have HD := Lib.hid hd
 have HS := Lib.hid hs
 have hE' : ∀ (args : Array Value) (w : World), (callFunc N args).run Try.prog w = .ok (.enter N args) w := hE
 have hb1 : b ≤ (a : Int) + (m : Int) := by omega
 have hb2 : (a : Int) + (m : Int) ≤ b := by omega
 clear hR hv h0 hd hs hE hb
 go_enter Try.func47, Try.ntmps47
 go_wp2_with fail
 go_loopg [8] m (fun fu i wr => ∃ j : Nat, j + fu = m ∧ i = .int .i64 (a + j : Nat) ∧ I (span g a j) wr)
 case atStart => exact ⟨0, by omega, rfl, H0.out⟩
 case round =>
  obtain ⟨j, hj, rfl, hI⟩ := hrel
  by_cases hlt : j < m
  ·have hv1 := HV.out _ _ hI
   have c0 := hv1.c0
   obtain ⟨bs, os, rfl, s0⟩ := hv1.hs (a + j) (by omega)
   rw [HR.out.st (by omega)] at s0
   have hsl := HR.out.stLe (i := a + j) (j := a + j + 1) (by omega) (by omega)
   have hst := HR.out.stTop (i := a + j + 1) (by omega)
   have hI0 := Lib.hid hI
   have hjb : (a : Int) + (j : Int) < b := by omega
   clear hv1 hI
   go_wp2_with fail
   clear hjb
   have hpl : (span g a j).length = st g (a + j) - st g a := span_len HR.out a j (by omega)
   generalize hij : a + j = i at *
   have HIJ := Lib.hid hij
   have hi1 : i + 1 < g.S.length := by omega
   have hai : a ≤ i := by omega
   have him : i < a + m := by omega
   have hsa : st g a ≤ st g i := HR.out.stLe hai (by omega)
   clear hij s0 c0
   obtain ⟨wr1, rfl⟩ : ∃ z : World, z = wr := ⟨_, rfl⟩
   obtain ⟨gk', rfl⟩ : ∃ z : Nat, z = gk := ⟨_, rfl⟩
   obtain ⟨len, hlen⟩ : ∃ n : Nat, st g (i + 1) = st g i + n := ⟨st g (i + 1) - st g i, by omega⟩
   go_loopg [9] len (fun fu c wr => ∃ r : Nat, r + fu = len ∧ c = .int .i64 (st g i + r : Nat) ∧ I (span g a j ++ edsN g i r) wr)
   case atStart => exact ⟨0, by omega, rfl, by simpa [edsN] using hI0.out⟩
   case round =>
    clear hI0
    obtain ⟨r, hr, rfl, hI⟩ := hrel
    have hv1 := HV.out _ _ hI
    have c0 := hv1.c0
    obtain ⟨b1, o1, e, s1⟩ := hv1.hs (i + 1) hi1
    cases e
    rw [HR.out.st hi1, hlen] at s1
    have e1 : IntKind.i64.wrap ((i : Int) + 1) = ((i + 1 : Nat) : Int) := by rw [IntWalk.i64_in _ (by omega)]; simp
    by_cases hlt2 : r < len
    ·have c1 := hv1.c1
     have c2 := hv1.c2
     generalize hk : st g i + r = k at *
     have hkT : k < g.T.length := by omega
     have hkA : k < g.A.length := by rw [HR.out.lens]; exact hkT
     obtain ⟨ba, oa, rfl, a0⟩ := hv1.ha k hkA
     obtain ⟨bt, ot, rfl, t0⟩ := hv1.ht k hkT
     have HK := Lib.hid (HS.out _ i k _ (HD.out _ _ hI) hai him (by omega) (by omega) (by rw [List.length_append, edsN_len, hpl]; omega))
     rw [List.append_assoc] at HK
     have hnext : edsN g i r ++ [edge g i k] = edsN g i (r + 1) := by rw [edsN_succ, hk]
     rw [hnext] at HK
     have HKK := Lib.hid hk
     have b3 : (k : Int) < (st g i : Int) + (len : Int) := by omega
     have b1 : (k : Int) < (g.A.length : Int) := by omega
     have b2 : (k : Int) < (g.T.length : Int) := by omega
     clear hv1 hI hk hnext
     generalize g.A.getD k 0 = xa at *
     generalize g.T.getD k 0 = xt at *
     go_wp2_with fail
     refine region_tail 13 (by kernel_rfl) (by kernel_rfl) ?_
     simp only [List.take_succ_cons, List.take_zero, List.drop_succ_cons, List.drop_zero]
     repeat still_step
     refine wpStill_nil ?_
     clear e1
     go_wp2_with (go_at_fn N; refine HK.out.mono ?_; rintro e w' ⟨rfl, hI2⟩)
     go_roundg (gk - 1)
     case measure => omega
     case rel => exact ⟨r + 1, by omega, by simp; have := HKK.out; omega, hI2⟩
    ·obtain rfl : gk = 0 := by omega
     obtain rfl : r = len := by omega
     have hnx : span g a j ++ edsN g i r = span g a (j + 1) := by
      rw [span_succ, HIJ.out, eds]
      have : st g (i + 1) - st g i = r := by omega
      rw [this]
     rw [hnx] at hI
     have HI := Lib.hid hI
     clear hI hv1
     go_wp2_with fail
     go_roundg (gk' - 1)
     case measure => omega
     case rel => exact ⟨j + 1, by omega, by simp; have := HIJ.out; omega, HI.out⟩
  ·obtain rfl : gk = 0 := by omega
   obtain rfl : j = m := by omega
   have HI := Lib.hid hI
   clear hI
   go_wp2_with fail
   go_end0
   exact ⟨rfl, HI.out⟩
end Go.Proofs.Ytlhpjfnfemebdaa
namespace Go.Proofs.Ytlhpjfnfemebdaa
open Go.RowKit
theorem Try.info65 : (Try.prog.info? 65).map (fun i => (i.zero, i.size, i.bytes)) = some (some (.agg #[.int .i64 0, .int .i64 0, .int .i64 0]), 3, 24) := by kernel_rfl
theorem ownsRow_frm {F : Nat → Prop} {w w' : World} {base : Nat} {e : TypeId} {size : Nat} {v : Value} {n : Nat} {xs : List Value} (h : w.ownsRow base e size v n xs) (hf : Frm F w w') (hF : ∀ k, v.ownBlock = some k → ¬ F k) : w'.ownsRow base e size v n xs := by
 refine ⟨h.1, ?_⟩
 rcases h.2 with hn | ⟨g, cap, cur, rfl, hb, hg, r⟩
 ·exact .inl hn
 ·exact .inr ⟨g, cap, cur, rfl, hb, hf.heap hg (hF g rfl), r⟩
def edCells (l : List Ed) : List Value := l.flatMap (fun e => [.int .i64 e.1, .int .i64 e.2.1, .int .i64 e.2.2])
theorem edCells_append (l k : List Ed) : edCells (l ++ k) = edCells l ++ edCells k := by simp [edCells]
theorem edCells_get (l : List Ed) : ∀ j, j < l.length → (edCells l)[j * 3]? = some (.int .i64 (l.getD j (0, 0, 0)).1) ∧ (edCells l)[j * 3 + 1]? = some (.int .i64 (l.getD j (0, 0, 0)).2.1) ∧ (edCells l)[j * 3 + 2]? = some (.int .i64 (l.getD j (0, 0, 0)).2.2) := by
 induction l with
 | nil => intro j hj; simp at hj
 | cons e l ih =>
  intro j hj
  cases j with
  | zero => simp [edCells]
  | succ j =>
   have := ih j (by simpa using hj)
   have e0 : (j + 1) * 3 = j * 3 + 3 := by omega
   rw [e0]
   simpa [edCells] using this
structure App (W : World) (lv : Nat) (l : List Ed) (w' : World) : Prop where
 frm : Frm (fun k => k = lv) W w'
 own : ∃ v, w'.heap[lv]? = some (.cells #[v] 62 (0, 0)) ∧ w'.ownsRow W.heap.size 65 3 v l.length (edCells l)
theorem ownsRow_edges {w : World} {base : Nat} {v : Value} {l : List Ed} (h : w.ownsRow base 65 3 v l.length (edCells l)) : EdgesAt w v l := by
 rcases h.2 with ⟨rfl, h0⟩ | ⟨g, cap, cur, rfl, hb, hg, hn, hc, hs, ht⟩
 ·have : l = [] := List.eq_nil_of_length_eq_zero h0
  subst this
  exact edgesAt_nil w
 ·refine ⟨_, cap, rfl, fun j hj => ⟨g, 0, rfl, ?_⟩⟩
  obtain ⟨e1, e2, e3⟩ := edCells_get l j hj
  rw [← ht, List.getElem?_take] at e1 e2 e3
  rw [if_pos (by omega)] at e1 e2 e3
  refine ⟨?_, ?_, ?_⟩
  ·rw [Nat.zero_add]; exact cell_of_block hg _ _ (by simpa using e1)
  ·rw [Nat.zero_add]; exact cell_of_block hg _ _ (by simpa using e2)
  ·rw [Nat.zero_add]; exact cell_of_block hg _ _ (by simpa using e3)
theorem App.drew {W : World} {lv : Nat} {l : List Ed} {w' : World} (h : App W lv l w') : App W lv l w'.drew := ⟨h.frm.drew, h.own⟩
theorem app_step {W : World} {lv : Nat} {l : List Ed} {w' : World} {v : Value} (hlv : lv < W.heap.size) (hf : Frm (fun k => k = lv) W w') (h1 : w'.heap[lv]? = some (.cells #[v] 62 (0, 0))) (h2 : w'.ownsRow W.heap.size 65 3 v l.length (edCells l))
  {o1 o2 : Obj} {w4 : World} (hg : ((w'.alloc o1).alloc o2).grownBy w4 v.ownBlock) : w4.cell? ⟨lv, 0, none⟩ = some v ∧ w4.frozen? ⟨lv, 0, none⟩ = false ∧ Frm (fun k => k = lv) W w4 ∧ w4.heap[lv]? = some (.cells #[v] 62 (0, 0)) := by
 have hne : ∀ k, v.ownBlock = some k → W.heap.size ≤ k := fun k hk => (h2.lt k hk).1
 have hlt : lv < w'.heap.size := (Array.getElem?_eq_some_iff.1 h1).1
 have h3 : ((w'.alloc o1).alloc o2).heap[lv]? = some (.cells #[v] 62 (0, 0)) := bheap (balloc _ _) (bheap (balloc _ _) h1)
 have h4 : w4.heap[lv]? = some (.cells #[v] 62 (0, 0)) := by
  rw [hg.block lv (by simp; omega) (fun e => by have := hne lv e.symm; omega)]; exact h3
 refine ⟨cell_of_block h4 0 _ rfl, free_of_block h4 0, ?_, h4⟩
 exact ((hf.alloc o1).alloc o2).grown hg (fun k hk hlt => by have := hne k hk; omega)
theorem app_done {W : World} {lv : Nat} {l : List Ed} {e : Ed} {w4 : World} {v : Value} {g cap : Nat} (hlv : lv < W.heap.size) (hf : Frm (fun k => k = lv) W w4) (h4 : w4.heap[lv]? = some (.cells #[v] 62 (0, 0)))
  (hown : w4.ownsRow W.heap.size 65 3 (.slice (some ⟨g, 0, none⟩) (l.length + 1) cap) (l.length + 1) (edCells l ++ [.int .i64 e.1, .int .i64 e.2.1, .int .i64 e.2.2])) :
  App W lv (l ++ [e]) (w4.setCell ⟨lv, 0, none⟩ (.slice (some ⟨g, 0, none⟩) (l.length + 1) cap)) := by
 refine ⟨hf.setCell (p := ⟨lv, 0, none⟩) (fun _ => rfl) _, .slice (some ⟨g, 0, none⟩) (l.length + 1) cap, ?_, ?_⟩
 ·rw [heap_setCell_block h4]; rfl
 ·have hg : W.heap.size ≤ g := (hown.lt g rfl).1
  have := ownsRow_frm (F := fun k => k = lv) hown ((Frm.refl (fun k => k = lv) w4).setCell (p := ⟨lv, 0, none⟩) (fun _ => rfl) (.slice (some ⟨g, 0, none⟩) (l.length + 1) cap)) (fun k hk e => by simp [Value.ownBlock] at hk; omega)
  rw [edCells_append]
  simpa [edCells] using this
set_option maxHeartbeats 4000000 in
theorem app_ok74 (W : World) (lv : Nat) (l : List Ed) (x y z : Int) (w : World) (hlv : lv < W.heap.size) (h : App W lv l w) (hl : l.length < 1000000) :
  Calls Try.prog 51 #[.agg #[.int .i64 x, .int .i64 y, .int .i64 z], .pointer (some ⟨lv, 0, none⟩)] w fun e w' => e = .returned (.tuple #[]) ∧ App W lv (l ++ [(x, y, z)]) w' := by
 obtain ⟨i0, hi0, hz0, hz1, hz2⟩ := info_parts Try.info65
 obtain ⟨hf, v, h1, h2⟩ := h
 have hsz := hf.size
 have c0 : (w.alloc (.cells #[.int .i64 x, .int .i64 y, .int .i64 z] 65)).cell? ⟨lv, 0, none⟩ = some v := bkeep (balloc _ _) (cell_of_block h1 0 _ rfl)
 have hne : lv ≠ w.heap.size := by omega
 have H1 := Lib.hid h1
 have H2 := Lib.hid h2
 have HF := Lib.hid hf
 clear h1 h2 hf
 go_enter Try.func51, Try.ntmps51
 go_wp2_with (at_builtin; refine wpList_append_lies ((w.alloc (.cells #[.int .i64 x, .int .i64 y, .int .i64 z] 65)).alloc (.cells #[.int .i64 x, .int .i64 y, .int .i64 z] 65)) rfl (.tmp 3) (.tmp 5) 62 rfl W.heap.size 65 i0 (.agg #[.int .i64 0, .int .i64 0, .int .i64 0]) 3 24 Try.underlying62 hi0 hz0 hz1 hz2 rfl (by decide) v l.length (edCells l) rfl ((H2.out.alloc _).alloc _) ⟨w.heap.size + 1, 0, none⟩ 1 1 [.int .i64 x, .int .i64 y, .int .i64 z] rfl rfl (World.news_of_block (heap_alloc_at _ _ _ (by simp))) (by simp [Value.oneCell']) (by omega) (by unfold maxLen; omega) (by omega) (by simp; omega) (w.heap.size + 1 + 1) (by simp) ?_; intro g2 cap2 w4 hown2 hgr2 hor2 hlt2; obtain ⟨q0, q1, q2, q3⟩ := app_step hlv HF.out H1.out H2.out hgr2; have HO := Lib.hid hown2; clear hgr2 hown2)
 go_end0
 exact ⟨rfl, app_done (e := (x, y, z)) hlv q2 q3 HO.out⟩
set_option maxHeartbeats 4000000 in
theorem app_ok75 (W : World) (lv : Nat) (l : List Ed) (x y z : Int) (w : World) (hlv : lv < W.heap.size) (h : App W lv l w) (hl : l.length < 1000000) :
  Calls Try.prog 49 #[.agg #[.int .i64 x, .int .i64 y, .int .i64 z], .pointer (some ⟨lv, 0, none⟩)] w fun e w' => e = .returned (.tuple #[]) ∧ App W lv (l ++ [(x, y, z)]) w' := by
 obtain ⟨i0, hi0, hz0, hz1, hz2⟩ := info_parts Try.info65
 obtain ⟨hf, v, h1, h2⟩ := h
 have hsz := hf.size
 have c0 : (w.alloc (.cells #[.int .i64 x, .int .i64 y, .int .i64 z] 65)).cell? ⟨lv, 0, none⟩ = some v := bkeep (balloc _ _) (cell_of_block h1 0 _ rfl)
 have hne : lv ≠ w.heap.size := by omega
 have H1 := Lib.hid h1
 have H2 := Lib.hid h2
 have HF := Lib.hid hf
 clear h1 h2 hf
 go_enter Try.func49, Try.ntmps49
 go_wp2_with (at_builtin; refine wpList_append_lies ((w.alloc (.cells #[.int .i64 x, .int .i64 y, .int .i64 z] 65)).alloc (.cells #[.int .i64 x, .int .i64 y, .int .i64 z] 65)) rfl (.tmp 3) (.tmp 5) 62 rfl W.heap.size 65 i0 (.agg #[.int .i64 0, .int .i64 0, .int .i64 0]) 3 24 Try.underlying62 hi0 hz0 hz1 hz2 rfl (by decide) v l.length (edCells l) rfl ((H2.out.alloc _).alloc _) ⟨w.heap.size + 1, 0, none⟩ 1 1 [.int .i64 x, .int .i64 y, .int .i64 z] rfl rfl (World.news_of_block (heap_alloc_at _ _ _ (by simp))) (by simp [Value.oneCell']) (by omega) (by unfold maxLen; omega) (by omega) (by simp; omega) (w.heap.size + 1 + 1) (by simp) ?_; intro g2 cap2 w4 hown2 hgr2 hor2 hlt2; obtain ⟨q0, q1, q2, q3⟩ := app_step hlv HF.out H1.out H2.out hgr2; have HO := Lib.hid hown2; clear hgr2 hown2)
 go_end0
 exact ⟨rfl, app_done (e := (x, y, z)) hlv q2 q3 HO.out⟩
end Go.Proofs.Ytlhpjfnfemebdaa
