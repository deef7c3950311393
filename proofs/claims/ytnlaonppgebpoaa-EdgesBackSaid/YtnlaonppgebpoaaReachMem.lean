/-
  edges.Reach: its own memory; the closure that visits.
-/
import Derived.Test.YtnlaonppgebpoaaReach2
import Derived.Test.YtnlaonppgebpoaaRBuild
namespace Go.Proofs.Ytnlaonppgebpoaa
open Go.RowKit

/-- Reach's variables: n (block B), the row of truths, its slice (block C), the stack, the closure -/
structure ReSt (w wr : World) (gc : Array Value) (B C n : Nat) (s : VS) : Prop where
  below : Below w.heap.size w wr
  hB : w.heap.size < B
  hC : B + 1 < C
  vg : wr.heap[w.heap.size]? = some (.cells gc 26 (0, 0))
  vn : wr.heap[B]? = some (.cells #[.int .i64 (n : Nat)] 3 (0, 0))
  bo : wr.heap[B + 1]? = some (.cells (bools s.1) 4 (0, 0))
  vo : wr.heap[C]? = some (.cells #[.slice (some ⟨B + 1, 0, none⟩) n n] 33 (0, 0))
  vp : ∃ v, wr.heap[C + 1]? = some (.cells #[v] 24 (0, 0)) ∧ wr.ownsRow (C + 3) 3 1 v s.2.length (intCells s.2)
  vv : wr.heap[C + 2]? = some (.cells #[.func (.func 81) #[] #[.pointer (some ⟨B, 0, none⟩), .pointer (some ⟨C, 0, none⟩), .pointer (some ⟨C + 1, 0, none⟩)]] 78 (0, 0))
  len : s.1.length = n
  cap : falses s.1 + s.2.length ≤ n
theorem ReSt.size {w wr : World} {gc : Array Value} {B C n : Nat} {s : VS} (h : ReSt w wr gc B C n s) : C + 2 < wr.heap.size := (Array.getElem?_eq_some_iff.1 h.vv).1
theorem ReSt.drew {w wr : World} {gc : Array Value} {B C n : Nat} {s : VS} (h : ReSt w wr gc B C n s) : ReSt w wr.drew gc B C n s := ⟨h.below.drew, h.hB, h.hC, h.vg, h.vn, h.bo, h.vo, h.vp, h.vv, h.len, h.cap⟩
theorem ReSt.more {w wr w' : World} {gc : Array Value} {B C n : Nat} {s : VS} (h : ReSt w wr gc B C n s) (hb : Below wr.heap.size wr w') : ReSt w w' gc B C n s := by
  obtain ⟨v, h1, h2⟩ := h.vp
  exact ⟨h.below.trans (hb.mono h.below.size), h.hB, h.hC, bheap hb h.vg, bheap hb h.vn, bheap hb h.bo, bheap hb h.vo, ⟨v, bheap hb h1, ownsRow_frm (F := fun _ => False) h2 (bfrm hb _) (fun _ _ => id)⟩, bheap hb h.vv, h.len, h.cap⟩
theorem falses_set_le (out : List Bool) (p : Nat) : falses (out.set p true) ≤ falses out := by
  by_cases hp : p < out.length
  · cases e : out.getD p false
    · have := falses_set out p hp e; omega
    · have : out.set p true = out := by
        apply List.ext_getElem?
        intro i
        rw [List.getElem?_set]
        by_cases hi : p = i
        · subst hi; simp [hp]; simpa [List.getD, hp] using e.symm
        · simp [hi]
      rw [this]; exact Nat.le_refl _
  · rw [List.set_eq_of_length_le (by omega)]; exact Nat.le_refl _
/-- a node marked -/
theorem ReSt.mark {w wr : World} {gc : Array Value} {B C n : Nat} {s : VS} (h : ReSt w wr gc B C n s) (k : Nat) : ReSt w (wr.setCell ⟨B + 1, k, none⟩ (.bool true)) gc B C n (s.1.set k true, s.2) := by
  obtain ⟨v, h1, h2⟩ := h.vp
  have hf : Frm (fun q => q = B + 1) wr (wr.setCell ⟨B + 1, k, none⟩ (.bool true)) := (Frm.refl (fun q => q = B + 1) wr).setCell (p := ⟨B + 1, k, none⟩) (fun _ => rfl) _
  have hB := h.hB
  have hC := h.hC
  refine ⟨h.below.setCell (p := ⟨B + 1, k, none⟩) (by show w.heap.size ≤ B + 1; omega) _, h.hB, h.hC, hf.heap h.vg (by omega), hf.heap h.vn (by omega), ?_, hf.heap h.vo (by omega), ⟨v, hf.heap h1 (by omega), ?_⟩, hf.heap h.vv (by omega), by simp [h.len], ?_⟩
  · rw [heap_setCell_block h.bo, bools_set]
  · exact ownsRow_frm h2 hf (fun q hq e => by have := (h2.lt q hq).1; omega)
  · have := falses_set_le s.1 k; have := h.cap; show falses (s.1.set k true) + s.2.length ≤ n; omega
/-- a number pushed: behind the append, behind the store -/
theorem ReSt.push {w wr : World} {gc : Array Value} {B C n : Nat} {s : VS} (h : ReSt w wr gc B C n s) {v : Value} (hv : wr.heap[C + 1]? = some (.cells #[v] 24 (0, 0))) (x : Int) (m : Nat) (hm : s.2.length = m) (hc : falses s.1 + s.2.length < n) {w2 w4 : World} {g cap : Nat} (h2 : Below wr.heap.size wr w2)
    (hg : w2.grownBy w4 v.ownBlock) (hown : w4.ownsRow (C + 3) 3 1 (.slice (some ⟨g, 0, none⟩) (m + 1) cap) (m + 1) (intCells s.2 ++ [.int .i64 x])) :
    w4.cell? ⟨C + 1, 0, none⟩ = some v ∧ w4.frozen? ⟨C + 1, 0, none⟩ = false ∧ ReSt w (w4.setCell ⟨C + 1, 0, none⟩ (.slice (some ⟨g, 0, none⟩) (m + 1) cap)) gc B C n (s.1, s.2 ++ [x]) := by
  subst hm
  obtain ⟨v', h1, hr⟩ := h.vp
  obtain rfl : v' = v := by rw [hv] at h1; simpa using h1.symm
  have hsz := h.size
  have hB := h.hB
  have hC := h.hC
  have hbl : ∀ k, v'.ownBlock = some k → C + 3 ≤ k ∧ k < wr.heap.size := fun k hk => hr.lt k hk
  have hold : ∀ (k : Nat) (o : Obj), k < C + 3 → wr.heap[k]? = some o → w4.heap[k]? = some o := fun k o hk hh => by
    rw [hg.block k (by have := h2.size; omega) (fun e => by have := hbl k e.symm; omega)]; exact bheap h2 hh
  have hgb : C + 3 ≤ g := (hown.lt g rfl).1
  have k3 := hold _ _ (by omega) hv
  have hf : Frm (fun q => q = C + 1) w4 (w4.setCell ⟨C + 1, 0, none⟩ (.slice (some ⟨g, 0, none⟩) (s.2.length + 1) cap)) := (Frm.refl (fun q => q = C + 1) w4).setCell (p := ⟨C + 1, 0, none⟩) (fun _ => rfl) _
  refine ⟨cell_of_block k3 0 _ rfl, free_of_block k3 0, ?_, hB, hC, ?_, ?_, ?_, ?_, ⟨.slice (some ⟨g, 0, none⟩) (s.2.length + 1) cap, ?_, ?_⟩, ?_, h.len, by show falses s.1 + (s.2 ++ [x]).length ≤ n; simp; omega⟩
  · exact ((h.below.trans (h2.mono h.below.size)).grown hg (by have := h2.size; omega) (fun k hk => by have := hbl k hk; omega)).setCell (p := ⟨C + 1, 0, none⟩) (by show w.heap.size ≤ C + 1; omega) _
  · exact hf.heap (hold _ _ (by omega) h.vg) (by omega)
  · exact hf.heap (hold _ _ (by omega) h.vn) (by omega)
  · exact hf.heap (hold _ _ (by omega) h.bo) (by omega)
  · exact hf.heap (hold _ _ (by omega) h.vo) (by omega)
  · rw [heap_setCell_block k3]; rfl
  · have := ownsRow_frm hown hf (fun k hk e => by simp [Value.ownBlock] at hk; omega)
    simpa [intCells] using this
  · exact hf.heap (hold _ _ (by omega) h.vv) (by omega)
/-- the last one taken off -/
theorem ReSt.pop {w wr : World} {gc : Array Value} {B C n : Nat} {out : List Bool} {op : List Int} {x : Int} (h : ReSt w wr gc B C n (out, op ++ [x])) :
    ∃ g cap, wr.heap[C + 1]? = some (.cells #[.slice (some ⟨g, 0, none⟩) (op.length + 1) cap] 24 (0, 0)) ∧ C + 3 ≤ g ∧ op.length + 1 ≤ cap ∧ cap ≤ maxLen ∧ wr.cell? ⟨g, op.length, none⟩ = some (.int .i64 x) ∧
      ReSt w (wr.setCell ⟨C + 1, 0, none⟩ (.slice (some ⟨g, 0, none⟩) op.length cap)) gc B C n (out, op) := by
  obtain ⟨v, h1, hl, h2⟩ := h.vp
  have hlen : (op ++ [x]).length = op.length + 1 := by simp
  rcases h2 with ⟨-, h0⟩ | ⟨g, cap, cur, rfl, hb, hg, hn, hc, hs, ht⟩
  · simp at h0
  rw [hlen] at h1 hn ht
  have hB := h.hB
  have hC := h.hC
  have hf : Frm (fun q => q = C + 1) wr (wr.setCell ⟨C + 1, 0, none⟩ (.slice (some ⟨g, 0, none⟩) op.length cap)) := (Frm.refl (fun q => q = C + 1) wr).setCell (p := ⟨C + 1, 0, none⟩) (fun _ => rfl) _
  refine ⟨g, cap, h1, hb, by omega, hc, ?_, ?_⟩
  · refine cell_of_block hg _ _ ?_
    have e : (intCells (op ++ [x]))[op.length]? = some (.int .i64 x) := by simp [intCells]
    rw [← ht, List.getElem?_take, if_pos (by omega)] at e
    simpa using e
  · refine ⟨h.below.setCell (p := ⟨C + 1, 0, none⟩) (by show w.heap.size ≤ C + 1; omega) _, hB, hC, hf.heap h.vg (by omega), hf.heap h.vn (by omega), hf.heap h.bo (by omega), hf.heap h.vo (by omega),
      ⟨.slice (some ⟨g, 0, none⟩) op.length cap, by rw [heap_setCell_block h1]; rfl, by simp [intCells], .inr ⟨g, cap, cur, rfl, hb, hf.heap hg (by omega), by show op.length ≤ cap; omega, hc, hs, ?_⟩⟩, hf.heap h.vv (by omega), h.len, by have := h.cap; simp at this ⊢; omega⟩
    have e : (intCells (op ++ [x])).take op.length = intCells op := by simp [intCells]
    rw [← e, ← ht, List.take_take]
    congr 1
    show op.length * 1 = _
    omega

/-- graphs' variables stay -/
def Keep26 (w w' : World) : Prop := ∀ (q : Nat) (c : Array Value) (fr : Nat × Nat), w.heap[q]? = some (.cells c 26 fr) → w'.heap[q]? = some (.cells c 26 fr)
theorem Keep26.refl (w : World) : Keep26 w w := fun _ _ _ h => h
theorem Keep26.trans {a b c : World} (h : Keep26 a b) (k : Keep26 b c) : Keep26 a c := fun q x fr e => k q x fr (h q x fr e)
theorem Keep26.of_below {w w' : World} (h : Below w.heap.size w w') : Keep26 w w' := fun _ _ _ e => bheap h e
theorem Keep26.set {w : World} {b : Nat} {c : Array Value} {t : TypeId} {fr : Nat × Nat} (h : w.heap[b]? = some (.cells c t fr)) (ht : t ≠ 26) (k : Nat) (v : Value) : Keep26 w (w.setCell ⟨b, k, none⟩ v) := by
  intro q x fr' e
  rw [Below.heap_setCell _ _ _ _ (show q ≠ b from fun e2 => by subst e2; rw [h] at e; simp at e; exact ht e.2.1)]; exact e
theorem Keep26.grown {w w2 w4 : World} {base : Nat} {v : Value} {n : Nat} {xs : List Value} (hr : w.ownsRow base 3 1 v n xs) (h2 : Below w.heap.size w w2) (hg : w2.grownBy w4 v.ownBlock) : Keep26 w2 w4 := by
  intro q x fr' e
  have hq : q < w2.heap.size := (Array.getElem?_eq_some_iff.1 e).1
  rw [hg.block q hq ?_]
  · exact e
  · intro e2
    rcases hr.2 with ⟨rfl, -⟩ | ⟨g, cap, cur, rfl, -, hg', -⟩
    · simp [Value.ownBlock] at e2
    · simp [Value.ownBlock] at e2
      subst e2
      rw [bheap h2 hg'] at e
      simp at e

set_option maxRecDepth 100000 in
set_option maxHeartbeats 4000000 in
theorem visit_ok (w : World) (gc : Array Value) (B C n : Nat) (s : VS) (i : Int) (wr : World) (h : ReSt w wr gc B C n s) (hn : n ≤ 1000000) :
    Calls Try.prog 81 #[.int .i64 i, .pointer (some ⟨B, 0, none⟩), .pointer (some ⟨C, 0, none⟩), .pointer (some ⟨C + 1, 0, none⟩)] wr fun e w' => e = .returned (.tuple #[]) ∧ ReSt w w' gc B C n (visitS n s i) ∧ Keep26 wr w' := by
  obtain ⟨i0, hi0, hz0, hz1, hz2⟩ := info_parts Try.info3
  have cn := cell_of_block h.vn 0 _ rfl
  have co := cell_of_block h.vo 0 _ rfl
  have hlen := h.len
  have hC := h.hC
  by_cases h0 : i < 0
  · rw [visitS_no (by omega)]
    have H := Lib.hid h
    clear h
    go_enter Try.func81, Try.ntmps81
    go_wp2_with fail
    go_end0
    exact ⟨rfl, H.out, Keep26.refl _⟩
  by_cases h1 : (n : Int) ≤ i
  · rw [visitS_no (by omega)]
    have H := Lib.hid h
    have h2 : ¬ i < (n : Int) := by omega
    clear h
    go_enter Try.func81, Try.ntmps81
    go_wp2_with fail
    go_end0
    exact ⟨rfl, H.out, Keep26.refl _⟩
  obtain ⟨k, rfl⟩ : ∃ k : Nat, i = (k : Int) := ⟨i.toNat, by omega⟩
  have hk : k < n := by omega
  have cb := cell_of_block h.bo k _ (bools_get s.1 k (by omega))
  have fb := free_of_block h.bo k
  cases hx : s.1.getD k false
  · rw [visitS_yes ⟨by omega, by omega, by simpa using hx⟩]
    rw [hx] at cb
    have h3 := h.mark k
    have hcap := h.cap
    have hfs := falses_set s.1 k (by omega) hx
    obtain ⟨v, p1, p2⟩ := h3.vp
    have cp := cell_of_block p1 0 _ rfl
    have hsz := h.size
    obtain ⟨m, hm⟩ : ∃ m, s.2.length = m := ⟨_, rfl⟩
    have HM := Lib.hid hm
    have H3 := Lib.hid h3
    have P1 := Lib.hid p1
    have P2 : Hid ((wr.setCell ⟨B + 1, k, none⟩ (.bool true)).ownsRow (C + 3) 3 1 v m (intCells s.2)) := Lib.hid (hm ▸ p2)
    have HC : Hid (falses (s.1.set k true) + s.2.length < n) := Lib.hid (by omega)
    have hmn : m ≤ n := by omega
    have KM := Lib.hid (Keep26.set h.bo (by decide) k (.bool true))
    have K3 := Lib.hid (fun w4 (hg : ((wr.setCell ⟨B + 1, k, none⟩ (.bool true)).alloc (.cells #[.int .i64 k] 3)).grownBy w4 v.ownBlock) => show w4.heap[C + 1]? = some (.cells #[v] 24 (0, 0)) by rw [hg.block _ (by simp; omega) (fun e => by have := (p2.lt _ e.symm).1; omega)]; exact bheap (balloc _ _) p1)
    have b1 : ¬ (k : Int) < 0 := by omega
    have b2 : (k : Int) < (n : Int) := by omega
    rw [show (k : Int).toNat = k from by simp]
    clear h h3 p1 p2 hx hlen hm hcap hfs
    go_enter Try.func81, Try.ntmps81
    go_wp2_with (at_builtin; refine wpList_append_lies ((wr.setCell ⟨B + 1, k, none⟩ (.bool true)).alloc (.cells #[.int .i64 k] 3)) rfl (.tmp 22) (.tmp 24) 24 rfl (C + 3) 3 i0 (.int .i64 0) 1 8 Try.underlying24 hi0 hz0 hz1 hz2 rfl (by decide) v m (intCells s.2) rfl (P2.out.alloc _) ⟨wr.heap.size, 0, none⟩ 1 1 [.int .i64 k] rfl rfl (World.news_of_block (heap_alloc_at _ _ _ (by simp))) (by simp [Value.oneCell']) (by omega) (by unfold maxLen; omega) (by omega) (by simp; omega) (wr.heap.size + 1) (by simp) ?_; intro g2 cap2 w4 hown2 hgr2 hor2 hlt2; obtain ⟨q0, q1, q2⟩ := H3.out.push P1.out k m HM.out HC.out (balloc _ (.cells #[.int .i64 k] 3)) hgr2 hown2; have Q := Lib.hid q2; have K := Lib.hid (((KM.out.trans (Keep26.of_below (balloc _ (.cells #[.int .i64 k] 3)))).trans (Keep26.grown P2.out (balloc _ (.cells #[.int .i64 k] 3)) hgr2)).trans (Keep26.set (K3.out w4 hgr2) (by decide) 0 (.slice (some ⟨g2, 0, none⟩) (m + 1) cap2))); clear q2 hgr2 hown2)
    go_end0
    exact ⟨rfl, Q.out, K.out⟩
  · rw [visitS_no (fun ⟨_, _, q⟩ => by rw [show (k : Int).toNat = k from by simp, hx] at q; cases q)]
    rw [hx] at cb
    have H := Lib.hid h
    have b1 : ¬ (k : Int) < 0 := by omega
    have b2 : (k : Int) < (n : Int) := by omega
    clear h hx
    go_enter Try.func81, Try.ntmps81
    go_wp2_with fail
    go_end0
    exact ⟨rfl, H.out, Keep26.refl _⟩
end Go.Proofs.Ytnlaonppgebpoaa
