/-
  A store into a configuration's own rows: the others stay.
-/
import Derived.Test.YtlhpjfnfemebdaaJMachX
namespace Go.Proofs.Ytlhpjfnfemebdaa
open Go.RowKit
theorem OwnI.other {base : Nat} {w : World} {v : Value} {l : List Int} (h : OwnI base w v l) {g i : Nat} (hne : v.ownBlock ≠ some g) (x : Value) : OwnI base (w.setCell ⟨g, i, none⟩ x) v l := ownsRow_setCell_other h (a := ⟨g, i, none⟩) hne x
theorem OwnE.other {base : Nat} {w : World} {v : Value} {l : List En} (h : OwnE base w v l) {g i : Nat} (hne : v.ownBlock ≠ some g) (x : Value) : OwnE base (w.setCell ⟨g, i, none⟩ x) v l := ownsRow_setCell_other h (a := ⟨g, i, none⟩) hne x
theorem OwnRs.other {base : Nat} {w : World} {v : Value} {rows : List (List Int)} {vals : List Value} (h : OwnRs base w v rows vals) {g i : Nat} (hne : v.ownBlock ≠ some g) (hi : ∀ x ∈ vals, x.ownBlock ≠ some g) (x : Value) : OwnRs base (w.setCell ⟨g, i, none⟩ x) v rows vals :=
 ⟨h.len, ownsRow_setCell_other h.out (a := ⟨g, i, none⟩) hne x, fun j hj => (h.inn j hj).other (hi _ (by simp [List.getD, show j < vals.length by have := h.len; omega])) x⟩
theorem OwnBs.other {base : Nat} {w : World} {v : Value} {rows : List (List En)} {vals : List Value} (h : OwnBs base w v rows vals) {g i : Nat} (hne : v.ownBlock ≠ some g) (hi : ∀ x ∈ vals, x.ownBlock ≠ some g) (x : Value) : OwnBs base (w.setCell ⟨g, i, none⟩ x) v rows vals :=
 ⟨h.len, ownsRow_setCell_other h.out (a := ⟨g, i, none⟩) hne x, fun j hj => (h.inn j hj).other (hi _ (by simp [List.getD, show j < vals.length by have := h.len; omega])) x⟩
theorem OwnC.setPc {base : Nat} {w : World} {g cap : Nat} {vr vm vb : Value} {rv bv : List Value} {c : Cf} (h : OwnC base w (.slice (some ⟨g, 0, none⟩) c.pc.length cap) vr vm vb rv bv c) {t : Nat} (ht : t < c.pc.length) (x : Int) :
  OwnC base (w.setCell ⟨g, t, none⟩ (.int .i64 x)) (.slice (some ⟨g, 0, none⟩) c.pc.length cap) vr vm vb rv bv { c with pc := c.pc.set t x } ∧ w.frozen? ⟨g, t, none⟩ = false := by
 obtain ⟨s1, s2⟩ := h.pc.set ht x
 obtain ⟨p1, -⟩ := List.pairwise_cons.1 h.apart
 have hg : ∀ v ∈ vr :: vm :: vb :: (rv ++ bv), v.ownBlock ≠ some g := fun v hv => p1 v hv g rfl
 exact ⟨⟨s1, h.regs.other (hg _ (by simp)) (fun v hv => hg v (by simp [hv])) _, h.mem.other (hg _ (by simp)) _, h.buf.other (hg _ (by simp)) (fun v hv => hg v (by simp [hv])) _, h.apart⟩, s2⟩
theorem OwnC.setMem {base : Nat} {w : World} {g cap : Nat} {vp vr vb : Value} {rv bv : List Value} {c : Cf} (h : OwnC base w vp vr (.slice (some ⟨g, 0, none⟩) c.mem.length cap) vb rv bv c) {t : Nat} (ht : t < c.mem.length) (x : Int) :
  OwnC base (w.setCell ⟨g, t, none⟩ (.int .i64 x)) vp vr (.slice (some ⟨g, 0, none⟩) c.mem.length cap) vb rv bv { c with mem := c.mem.set t x } ∧ w.frozen? ⟨g, t, none⟩ = false := by
 obtain ⟨s1, s2⟩ := h.mem.set ht x
 obtain ⟨p1, q1⟩ := List.pairwise_cons.1 h.apart
 obtain ⟨p2, q2⟩ := List.pairwise_cons.1 q1
 obtain ⟨p3, -⟩ := List.pairwise_cons.1 q2
 have hg : ∀ v ∈ vb :: (rv ++ bv), v.ownBlock ≠ some g := fun v hv => p3 v hv g rfl
 have hp : vp.ownBlock ≠ some g := fun e => p1 (.slice (some ⟨g, 0, none⟩) c.mem.length cap) (by simp) g e rfl
 have hr : vr.ownBlock ≠ some g := fun e => p2 (.slice (some ⟨g, 0, none⟩) c.mem.length cap) (by simp) g e rfl
 exact ⟨⟨h.pc.other hp _, h.regs.other hr (fun v hv => hg v (by simp [hv])) _, s1, h.buf.other (hg _ (by simp)) (fun v hv => hg v (by simp [hv])) _, h.apart⟩, s2⟩
theorem OwnC.setReg {base : Nat} {w : World} {g cap n : Nat} {vp vr vm vb : Value} {rv bv : List Value} {c : Cf} (h : OwnC base w vp vr vm vb rv bv c) {t : Nat} (ht : t < c.regs.length) (hv : rv.getD t undef = .slice (some ⟨g, 0, none⟩) n cap) {r : Nat} (hr : r < (c.regs.getD t []).length) (x : Int) :
  OwnC base (w.setCell ⟨g, r, none⟩ (.int .i64 x)) vp vr vm vb rv bv { c with regs := c.regs.set t ((c.regs.getD t []).set r x) } ∧ w.frozen? ⟨g, r, none⟩ = false := by
 have hl := h.regs.len
 have hrow := h.regs.inn t ht
 obtain ⟨ra, rc, e⟩ := ownv hrow
 rw [hv] at e
 cases e
 rw [hv] at hrow
 obtain ⟨s1, s2⟩ := OwnI.set hrow hr x
 obtain ⟨p1, q1⟩ := List.pairwise_cons.1 h.apart
 obtain ⟨p2, q2⟩ := List.pairwise_cons.1 q1
 obtain ⟨p3, q3⟩ := List.pairwise_cons.1 q2
 obtain ⟨p4, q4⟩ := List.pairwise_cons.1 q3
 have hmem : rv.getD t undef ∈ rv := by simp [List.getD, show t < rv.length by omega]
 have hob : (rv.getD t undef).ownBlock = some g := by rw [hv]; rfl
 have np : vp.ownBlock ≠ some g := fun e => p1 (rv.getD t undef) (List.mem_cons_of_mem _ (List.mem_cons_of_mem _ (List.mem_cons_of_mem _ (List.mem_append_left _ hmem)))) g e hob
 have nr : vr.ownBlock ≠ some g := fun e => p2 (rv.getD t undef) (List.mem_cons_of_mem _ (List.mem_cons_of_mem _ (List.mem_append_left _ hmem))) g e hob
 have nm : vm.ownBlock ≠ some g := fun e => p3 (rv.getD t undef) (List.mem_cons_of_mem _ (List.mem_append_left _ hmem)) g e hob
 have nb : vb.ownBlock ≠ some g := fun e => p4 (rv.getD t undef) (List.mem_append_left _ hmem) g e hob
 rw [List.pairwise_append] at q4
 obtain ⟨qr, -, qb⟩ := q4
 refine ⟨⟨h.pc.other np _, ⟨by simp [hl], ?_, fun j hj => ?_⟩, h.mem.other nm _, h.buf.other nb (fun v hv' e => qb _ hmem v hv' g hob e) _, h.apart⟩, s2⟩
 ·rw [List.length_set]
  exact ownsRow_setCell_other h.regs.out (a := ⟨g, r, none⟩) nr _
 ·rw [List.length_set] at hj
  by_cases e : j = t
  ·subst e
   have : (c.regs.set j ((c.regs.getD j []).set r x)).getD j [] = (c.regs.getD j []).set r x := by simp [List.getD, hj]
   rw [this, hv]
   exact s1
  ·have : (c.regs.set t ((c.regs.getD t []).set r x)).getD j [] = c.regs.getD j [] := by simp [List.getD, List.getElem?_set_ne (Ne.symm e)]
   rw [this]
   refine (h.regs.inn j hj).other (fun e2 => ?_) _
   have hg1 : rv.getD j undef = rv[j]'(by omega) := by simp [List.getD, show j < rv.length by omega]
   have hg2 : rv.getD t undef = rv[t]'(by omega) := by simp [List.getD, show t < rv.length by omega]
   rw [hg1] at e2
   rw [hg2] at hob
   rcases Nat.lt_or_ge j t with q | q
   ·exact List.pairwise_iff_getElem.1 qr j t (by omega) (by omega) q g e2 hob
   ·exact List.pairwise_iff_getElem.1 qr t j (by omega) (by omega) (by omega) g hob e2
theorem OwnC.setBuf {base : Nat} {w : World} {g cap : Nat} {vp vr vm nv : Value} {rv bv : List Value} {c : Cf} {row : List En} (h : OwnC base w vp vr vm (.slice (some ⟨g, 0, none⟩) c.buf.length cap) rv bv c) {t : Nat} (ht : t < c.buf.length) {N : Nat} (hN : ∀ v ∈ vp :: vr :: vm :: .slice (some ⟨g, 0, none⟩) c.buf.length cap :: (rv ++ bv), ∀ q, v.ownBlock = some q → q < N) (hn : OwnE base w nv row) (hnv : ∀ q, nv.ownBlock = some q → N ≤ q) :
  OwnC base (w.setCell ⟨g, t, none⟩ nv) vp vr vm (.slice (some ⟨g, 0, none⟩) c.buf.length cap) rv (bv.set t nv) { c with buf := c.buf.set t row } ∧ w.frozen? ⟨g, t, none⟩ = false := by
 have hl := h.buf.len
 obtain ⟨p1, q1⟩ := List.pairwise_cons.1 h.apart
 obtain ⟨p2, q2⟩ := List.pairwise_cons.1 q1
 obtain ⟨p3, q3⟩ := List.pairwise_cons.1 q2
 obtain ⟨p4, q4⟩ := List.pairwise_cons.1 q3
 have hg : g < N := hN (.slice (some ⟨g, 0, none⟩) c.buf.length cap) (by simp) g rfl
 have np : vp.ownBlock ≠ some g := fun e => p1 (.slice (some ⟨g, 0, none⟩) c.buf.length cap) (by simp) g e rfl
 have nr : vr.ownBlock ≠ some g := fun e => p2 (.slice (some ⟨g, 0, none⟩) c.buf.length cap) (by simp) g e rfl
 have nm : vm.ownBlock ≠ some g := fun e => p3 (.slice (some ⟨g, 0, none⟩) c.buf.length cap) (by simp) g e rfl
 have ni : ∀ v ∈ rv ++ bv, v.ownBlock ≠ some g := fun v hv => p4 v hv g rfl
 have nn : nv.ownBlock ≠ some g := fun e => by have := hnv g e; omega
 obtain ⟨s1, s2⟩ := ownset h.buf.out ht nv
 have hap : ∀ v ∈ vp :: vr :: vm :: .slice (some ⟨g, 0, none⟩) c.buf.length cap :: (rv ++ bv), AP v nv := fun v hv => AP.fresh (hN v hv) hnv
 refine ⟨⟨h.pc.other np _, h.regs.other nr (fun v hv => ni v (List.mem_append_left _ hv)) _, h.mem.other nm _, ⟨by simp [hl], by rw [List.length_set]; exact s1, fun j hj => ?_⟩, ?_⟩, s2⟩
 ·rw [List.length_set] at hj
  by_cases e : j = t
  ·subst e
   have e1 : (c.buf.set j row).getD j [] = row := by simp [List.getD, hj]
   have e2 : (bv.set j nv).getD j undef = nv := by simp [List.getD, show j < bv.length by omega]
   rw [e1, e2]
   exact hn.other nn _
  ·have e1 : (c.buf.set t row).getD j [] = c.buf.getD j [] := by simp [List.getD, List.getElem?_set_ne (Ne.symm e)]
   have e2 : (bv.set t nv).getD j undef = bv.getD j undef := by simp [List.getD, List.getElem?_set_ne (Ne.symm e)]
   rw [e1, e2]
   exact (h.buf.inn j hj).other (ni _ (List.mem_append_right _ (by simp [List.getD, show j < bv.length by omega]))) _
 ·have hmem : ∀ v ∈ bv.set t nv, v = nv ∨ v ∈ bv := fun v hv => (List.mem_or_eq_of_mem_set hv).symm
  have hrs : ∀ v ∈ rv ++ bv.set t nv, v = nv ∨ v ∈ rv ++ bv := fun v hv => by
   rcases List.mem_append.1 hv with h1 | h1
   ·exact .inr (List.mem_append_left _ h1)
   ·rcases hmem v h1 with h2 | h2
    ·exact .inl h2
    ·exact .inr (List.mem_append_right _ h2)
  refine List.pairwise_cons.2 ⟨fun v hv => ?_, List.pairwise_cons.2 ⟨fun v hv => ?_, List.pairwise_cons.2 ⟨fun v hv => ?_, List.pairwise_cons.2 ⟨fun v hv => ?_, ?_⟩⟩⟩⟩
  ·simp only [List.mem_cons] at hv
   rcases hv with rfl | rfl | rfl | hv
   ·exact p1 _ (by simp)
   ·exact p1 _ (by simp)
   ·exact p1 _ (by simp)
   ·rcases hrs v hv with rfl | hv
    ·exact hap _ (by simp)
    ·exact p1 v (by simp only [List.mem_cons]; exact .inr (.inr (.inr hv)))
  ·simp only [List.mem_cons] at hv
   rcases hv with rfl | rfl | hv
   ·exact p2 _ (by simp)
   ·exact p2 _ (by simp)
   ·rcases hrs v hv with rfl | hv
    ·exact hap _ (by simp)
    ·exact p2 v (by simp only [List.mem_cons]; exact .inr (.inr hv))
  ·simp only [List.mem_cons] at hv
   rcases hv with rfl | hv
   ·exact p3 _ (by simp)
   ·rcases hrs v hv with rfl | hv
    ·exact hap _ (by simp)
    ·exact p3 v (by simp only [List.mem_cons]; exact .inr hv)
  ·rcases hrs v hv with rfl | hv
   ·exact hap _ (by simp)
   ·exact p4 v hv
  ·rw [List.pairwise_append] at q4 ⊢
   obtain ⟨qr, qb, qx⟩ := q4
   refine ⟨qr, ?_, fun x hx y hy => ?_⟩
   ·rw [List.pairwise_iff_getElem] at qb ⊢
    intro i j hi hj hij
    rw [List.length_set] at hi hj
    rw [List.getElem_set, List.getElem_set]
    split
    ·split
     ·omega
     ·exact (hap _ (by simp only [List.mem_cons]; exact .inr (.inr (.inr (.inr (List.mem_append_right _ (List.getElem_mem _))))))).symm
    ·split
     ·exact hap _ (by simp only [List.mem_cons]; exact .inr (.inr (.inr (.inr (List.mem_append_right _ (List.getElem_mem _))))))
     ·exact qb i j hi hj hij
   ·rcases hmem y hy with rfl | hy
    ·exact hap _ (by simp only [List.mem_cons]; exact .inr (.inr (.inr (.inr (List.mem_append_left _ hx)))))
    ·exact qx x hx y hy
end Go.Proofs.Ytlhpjfnfemebdaa
