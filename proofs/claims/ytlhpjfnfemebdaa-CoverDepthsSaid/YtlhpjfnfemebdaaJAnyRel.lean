/-
  A region that draws its order and whose operations read old memory and lay blocks of their own: EACH OPERATION BY A RELATION OF ITS OWN on what it yields, whatever has been done before it but what it waits for. As AnyRel, and what holds of two operations' values: new blocks are apart. As AnyRel, and a tail of operations in the order of the text.
-/
import Derived.Test.YtlhpjfnfemebdaaRBuild
namespace Go.Proofs.Ytlhpjfnfemebdaa
open Go.RowKit
def lexDeps (md : Region.Mode) (ops : Array Oper) : Bool := (List.range ops.size).all fun j => ((ops[j]?).map (fun o => o.after.all fun e => !Region.binds md e || decide (e.on < j))).getD true
def waits (md : Region.Mode) (ops : Array Oper) (j i : Nat) : Bool := ((ops[j]?).map (fun o => o.after.any fun e => Region.binds md e && (e.on == i))).getD false
section
variable {P : Program} {ops : Array Oper} {Q : Exit → Act → World → Prop} {md : Region.Mode}
def StepOk (P : Program) (ops : Array Oper) (Q : Exit → Act → World → Prop) (md : Region.Mode) (mk : (Nat → Value) → Act) (d : Nat → Nat) (w0 : World) (R : Nat → Value → World → Prop) (j : Nat) (o : Oper) : Prop :=
 ∀ f w, Below w0.heap.size w0 w → (∀ i, waits md ops j i = true → R i (f (d i)) w) →
  ∀ K : Act → World → Prop, (∀ v w', Below w.heap.size w w' → R j v w' → K ((mk f).put (some (d j)) v) w') →
   if Region.wanted o (yielded ops (mk f).tmps) = true then Oper.wp P o (mk f) w K Q else K ((mk f).put o.dst undef) w
def unl (listed : Array Bool) : Nat := listed.toList.countP (fun b => !b)
theorem unl_set : ∀ (l : List Bool) (i : Nat), i < l.length → l.getD i true = false → (l.set i true).countP (fun b => !b) + 1 = l.countP (fun b => !b)
 | [], i, h, _ => by simp at h
 | b :: l, 0, _, h => by
  have : b = false := by simpa using h
  subst this; simp
 | b :: l, i + 1, h, h2 => by
  have := unl_set l i (by simpa using h) (by simpa using h2)
  simp only [List.set_cons_succ, List.countP_cons] at this ⊢
  omega
theorem wpAny_rel (mk : (Nat → Value) → Act) (d : Nat → Nat) (w0 : World) (R : Nat → Value → World → Prop)
  (hR : ∀ i u w w', Below w.heap.size w w' → R i u w → R i u w')
  (hlex : lexDeps md ops = true) (hinj : ∀ i j, i < ops.size → j < ops.size → d i = d j → i = j)
  (hput : ∀ j, j < ops.size → ∀ f v, (mk f).put (some (d j)) v = mk (upd f (d j) v))
  (hstep : ∀ j o, ops[j]? = some o → StepOk P ops Q md mk d w0 R j o)
  (hend : ∀ f w, Below w0.heap.size w0 w → (∀ j, j < ops.size → R j (f (d j)) w) → Q .normal (mk f) w) :
  ∀ (fuel : Nat) (listed : Array Bool) (f : Nat → Value) (w : World), listed.size = ops.size → unl listed ≤ fuel → Below w0.heap.size w0 w →
   (∀ j, j < ops.size → listed.getD j true = true → R j (f (d j)) w) → wpAny P md ops Q fuel listed (mk f) w := by
 have hdone : ∀ (listed : Array Bool) (f : Nat → Value) (w : World), listed.size = ops.size → Below w0.heap.size w0 w → (∀ j, j < ops.size → listed.getD j true = true → R j (f (d j)) w) → Region.ready md ops listed = [] → Q .normal (mk f) w := by
  intro listed f w hs hb hr h0
  refine hend f w hb fun j hj => hr j hj ?_
  have key : ∀ j, j < ops.size → listed.getD j true = true := by
   intro j
   induction j using Nat.strongRecOn with
   | _ j ih =>
    intro hj
    cases hl : listed.getD j true with
    | true => rfl
    | false =>
     exfalso
     have hm : j ∈ Region.ready md ops listed := by
      rw [mem_ready]
      refine ⟨hl, ops[j], by simp [hj], fun e he hbd => ?_⟩
      have hle : e.on < j := by
       unfold lexDeps at hlex
       have := List.all_eq_true.1 hlex j (List.mem_range.2 hj)
       simp only [Array.getElem?_eq_getElem hj, Option.map_some, Option.getD_some, Array.all_eq_true'] at this
       have := this e he
       simpa [hbd] using this
      have h1 := ih e.on hle (by omega)
      have hsz : e.on < listed.size := by omega
      simpa [hsz] using h1
     rw [h0] at hm
     cases hm
  exact key j hj
 intro fuel
 induction fuel with
 | zero =>
  intro listed f w hs hu hb hr
  have h0 : Region.ready md ops listed = [] := by
   rw [List.eq_nil_iff_forall_not_mem]
   intro j hj
   obtain ⟨hl, o, ho, -⟩ := mem_ready.1 hj
   have hjs : j < listed.size := by rw [hs]; exact (Array.getElem?_eq_some_iff.1 ho).1
   have hpos : 0 < listed.toList.countP (fun b => !b) := by
    rw [List.countP_pos_iff]
    refine ⟨listed[j], by simp, ?_⟩
    simpa [hjs] using hl
   unfold unl at hu
   omega
  exact ⟨h0, hdone listed f w hs hb hr h0⟩
 | succ fuel ih =>
  intro listed f w hs hu hb hr
  refine ⟨hdone listed f w hs hb hr, fun i hi => ?_⟩
  obtain ⟨hl, o, ho, hall⟩ := mem_ready.1 hi
  have his : i < ops.size := (Array.getElem?_eq_some_iff.1 ho).1
  have hil : i < listed.size := by omega
  have hdeps : ∀ k, waits md ops i k = true → R k (f (d k)) w := by
   intro k hk
   unfold waits at hk
   simp only [ho, Option.map_some, Option.getD_some, Array.any_eq_true', Bool.and_eq_true, beq_iff_eq] at hk
   obtain ⟨e, he, hbd, rfl⟩ := hk
   have hlf := hall e he hbd
   have hlt : e.on < listed.size := by
    rcases Nat.lt_or_ge e.on listed.size with h | h
    ·exact h
    ·simp [Array.getElem?_eq_none h] at hlf
   exact hr e.on (by omega) (by simpa [hlt] using hlf)
  have hk := hstep i o ho f w hb hdeps (wpAny P md ops Q fuel (listed.setIfInBounds i true)) (by
   intro v w' hb' hv
   rw [hput i his]
   refine ih _ _ _ (by simpa using hs) ?_ (hb.trans (hb'.mono hb.size)) ?_
   ·unfold unl at hu ⊢
    have := unl_set listed.toList i (by simpa using hil) (by simpa [hil] using hl)
    rw [Array.toList_setIfInBounds]
    omega
   ·intro j hj hlj
    by_cases e : j = i
    ·subst e; rw [upd_same]; exact hv
    ·rw [upd_other _ _ _ _ (fun e2 => e (hinj j i hj his e2))]
     refine hR j _ w w' hb' (hr j hj ?_)
     rw [getD_set_ne true (fun e2 => e e2.symm)] at hlj
     exact hlj)
  unfold wpOp
  simp only [ho]
  split
  ·rename_i hw; rw [if_pos hw] at hk; exact .inl hk
  ·rename_i hw; rw [if_neg hw] at hk; exact hk
def StepAll (P : Program) (ops : Array Oper) (Q : Exit → Act → World → Prop) (md : Region.Mode) (mk : (Nat → Value) → Act) (d : Nat → Nat) (w0 : World) (R : Nat → Value → World → Prop) : Nat → List Oper → Prop
 | _, [] => True
 | k, o :: l => StepOk P ops Q md mk d w0 R k o ∧ StepAll P ops Q md mk d w0 R (k + 1) l
theorem StepAll.at {mk : (Nat → Value) → Act} {d : Nat → Nat} {w0 : World} {R : Nat → Value → World → Prop} : ∀ (l : List Oper) (k : Nat), StepAll P ops Q md mk d w0 R k l → ∀ j o, l[j]? = some o → StepOk P ops Q md mk d w0 R (k + j) o
 | [], _, _, j, o, h => by simp at h
 | x :: l, k, h, 0, o, ho => by
  obtain rfl : x = o := by simpa using ho
  exact h.1
 | x :: l, k, h, j + 1, o, ho => by
  have := StepAll.at l (k + 1) h.2 j o (by simpa using ho)
  rwa [show k + (j + 1) = k + 1 + j by omega]
def injB (n : Nat) (d : Nat → Nat) : Bool := (List.range n).all fun i => (List.range n).all fun j => d i != d j || i == j
theorem region_rel {id : Nat} {a : Act} {w : World} {l : List Oper} (f0 : Nat → Value) (mk : (Nat → Value) → Act) (d : Nat → Nat) (R : Nat → Value → World → Prop) (ha : a = mk f0)
  (hm : P.follows .mixedOrders = true) (hR : ∀ i u w w', Below w.heap.size w w' → R i u w → R i u w')
  (hlex : lexDeps .any l.toArray = true) (hinj : injB l.length d = true)
  (hput : ∀ j, j < l.length → ∀ f v, (mk f).put (some (d j)) v = mk (upd f (d j) v))
  (hstep : StepAll P l.toArray Q .any mk d w.drew R 0 l)
  (hend : ∀ f w', Below w.heap.size w w' → (∀ j, j < l.length → R j (f (d j)) w') → Q .normal (mk f) w') : (Code.region id l.toArray true).wp P Q a w := by
 subst ha
 refine wp_region_any hm ?_
 have hb0 : Below w.drew.heap.size w.drew w.drew := Below.refl _ _
 refine wpAny_rel mk d w.drew R hR hlex ?_ (by simpa using hput) ?_ ?_ _ _ f0 w.drew (by simp) ?_ hb0 ?_
 ·intro i j hi hj e
  have h1 := List.all_eq_true.1 hinj i (List.mem_range.2 (by simpa using hi))
  have h2 := List.all_eq_true.1 h1 j (List.mem_range.2 (by simpa using hj))
  simpa [e] using h2
 ·intro j o ho
  have := hstep.at l 0 j o (by simpa using ho)
  rwa [Nat.zero_add] at this
 ·intro f w' hb h
  exact hend f w' ⟨hb.os, hb.tape, hb.output, hb.size, hb.block⟩ (by simpa using h)
 ·unfold unl; simp
  exact Nat.le_trans List.countP_le_length (by simp)
 ·intro j hj hl
  simp at hj
  simp [hj] at hl
end
end Go.Proofs.Ytlhpjfnfemebdaa
namespace Go.Proofs.Ytlhpjfnfemebdaa
open Go.RowKit
section
variable {P : Program} {ops : Array Oper} {Q : Exit → Act → World → Prop} {md : Region.Mode}
def StepOk2 (P : Program) (ops : Array Oper) (Q : Exit → Act → World → Prop) (md : Region.Mode) (mk : (Nat → Value) → Act) (d : Nat → Nat) (w0 : World) (R : Nat → Value → World → Prop) (S : Nat → Nat → Value → Value → Prop) (j : Nat) (o : Oper) : Prop :=
 ∀ f w, Below w0.heap.size w0 w → (∀ i, waits md ops j i = true → R i (f (d i)) w) → (∀ i k, waits md ops j i = true → waits md ops j k = true → i ≠ k → S i k (f (d i)) (f (d k))) →
  ∀ K : Act → World → Prop, (∀ v w', Below w.heap.size w w' → R j v w' → (∀ i u, i ≠ j → R i u w → S i j u v ∧ S j i v u) → K ((mk f).put (some (d j)) v) w') →
   if Region.wanted o (yielded ops (mk f).tmps) = true then Oper.wp P o (mk f) w K Q else K ((mk f).put o.dst undef) w
theorem wpAny_rel2 (mk : (Nat → Value) → Act) (d : Nat → Nat) (w0 : World) (R : Nat → Value → World → Prop) (S : Nat → Nat → Value → Value → Prop)
  (hR : ∀ i u w w', Below w.heap.size w w' → R i u w → R i u w')
  (hlex : lexDeps md ops = true) (hinj : ∀ i j, i < ops.size → j < ops.size → d i = d j → i = j)
  (hput : ∀ j, j < ops.size → ∀ f v, (mk f).put (some (d j)) v = mk (upd f (d j) v))
  (hstep : ∀ j o, ops[j]? = some o → StepOk2 P ops Q md mk d w0 R S j o)
  (hend : ∀ f w, Below w0.heap.size w0 w → (∀ j, j < ops.size → R j (f (d j)) w) → (∀ i j, i < ops.size → j < ops.size → i ≠ j → S i j (f (d i)) (f (d j))) → Q .normal (mk f) w) :
  ∀ (fuel : Nat) (listed : Array Bool) (f : Nat → Value) (w : World), listed.size = ops.size → unl listed ≤ fuel → Below w0.heap.size w0 w →
   (∀ j, j < ops.size → listed.getD j true = true → R j (f (d j)) w) → (∀ i j, i < ops.size → j < ops.size → i ≠ j → listed.getD i true = true → listed.getD j true = true → S i j (f (d i)) (f (d j))) → wpAny P md ops Q fuel listed (mk f) w := by
 have hdone : ∀ (listed : Array Bool) (f : Nat → Value) (w : World), listed.size = ops.size → Below w0.heap.size w0 w → (∀ j, j < ops.size → listed.getD j true = true → R j (f (d j)) w) → (∀ i j, i < ops.size → j < ops.size → i ≠ j → listed.getD i true = true → listed.getD j true = true → S i j (f (d i)) (f (d j))) → Region.ready md ops listed = [] → Q .normal (mk f) w := by
  intro listed f w hs hb hr hS h0
  have key : ∀ j, j < ops.size → listed.getD j true = true := by
   intro j
   induction j using Nat.strongRecOn with
   | _ j ih =>
    intro hj
    cases hl : listed.getD j true with
    | true => rfl
    | false =>
     exfalso
     have hm : j ∈ Region.ready md ops listed := by
      rw [mem_ready]
      refine ⟨hl, ops[j], by simp [hj], fun e he hbd => ?_⟩
      have hle : e.on < j := by
       unfold lexDeps at hlex
       have := List.all_eq_true.1 hlex j (List.mem_range.2 hj)
       simp only [Array.getElem?_eq_getElem hj, Option.map_some, Option.getD_some, Array.all_eq_true'] at this
       have := this e he
       simpa [hbd] using this
      have h1 := ih e.on hle (by omega)
      have hsz : e.on < listed.size := by omega
      simpa [hsz] using h1
     rw [h0] at hm
     cases hm
  exact hend f w hb (fun j hj => hr j hj (key j hj)) (fun i j hi hj e => hS i j hi hj e (key i hi) (key j hj))
 intro fuel
 induction fuel with
 | zero =>
  intro listed f w hs hu hb hr hS
  have h0 : Region.ready md ops listed = [] := by
   rw [List.eq_nil_iff_forall_not_mem]
   intro j hj
   obtain ⟨hl, o, ho, -⟩ := mem_ready.1 hj
   have hjs : j < listed.size := by rw [hs]; exact (Array.getElem?_eq_some_iff.1 ho).1
   have hpos : 0 < listed.toList.countP (fun b => !b) := by
    rw [List.countP_pos_iff]
    refine ⟨listed[j], by simp, ?_⟩
    simpa [hjs] using hl
   unfold unl at hu
   omega
  exact ⟨h0, hdone listed f w hs hb hr hS h0⟩
 | succ fuel ih =>
  intro listed f w hs hu hb hr hS
  refine ⟨hdone listed f w hs hb hr hS, fun i hi => ?_⟩
  obtain ⟨hl, o, ho, hall⟩ := mem_ready.1 hi
  have his : i < ops.size := (Array.getElem?_eq_some_iff.1 ho).1
  have hil : i < listed.size := by omega
  have hlist : ∀ k, waits md ops i k = true → k < ops.size ∧ listed.getD k true = true := by
   intro k hk
   unfold waits at hk
   simp only [ho, Option.map_some, Option.getD_some, Array.any_eq_true', Bool.and_eq_true, beq_iff_eq] at hk
   obtain ⟨e, he, hbd, rfl⟩ := hk
   have hlf := hall e he hbd
   have hlt : e.on < listed.size := by
    rcases Nat.lt_or_ge e.on listed.size with h | h
    ·exact h
    ·simp [Array.getElem?_eq_none h] at hlf
   exact ⟨by omega, by simpa [hlt] using hlf⟩
  have hk := hstep i o ho f w hb (fun k hk => hr k (hlist k hk).1 (hlist k hk).2) (fun a b ha hb2 e => hS a b (hlist a ha).1 (hlist b hb2).1 e (hlist a ha).2 (hlist b hb2).2) (wpAny P md ops Q fuel (listed.setIfInBounds i true)) (by
   intro v w' hb' hv hnew
   rw [hput i his]
   refine ih _ _ _ (by simpa using hs) ?_ (hb.trans (hb'.mono hb.size)) ?_ ?_
   ·unfold unl at hu ⊢
    have := unl_set listed.toList i (by simpa using hil) (by simpa [hil] using hl)
    rw [Array.toList_setIfInBounds]
    omega
   ·intro j hj hlj
    by_cases e : j = i
    ·subst e; rw [upd_same]; exact hv
    ·rw [upd_other _ _ _ _ (fun e2 => e (hinj j i hj his e2))]
     refine hR j _ w w' hb' (hr j hj ?_)
     rw [getD_set_ne true (fun e2 => e e2.symm)] at hlj
     exact hlj
   ·intro a b ha hbb hab hla hlb
    by_cases e : b = i
    ·subst e
     rw [upd_same, upd_other _ _ _ _ (fun e2 => hab (hinj a b ha his e2))]
     rw [getD_set_ne true (fun e2 => hab e2.symm)] at hla
     exact (hnew a _ hab (hr a ha hla)).1
    ·rw [getD_set_ne true (fun e2 => e e2.symm)] at hlb
     by_cases e' : a = i
     ·subst e'
      rw [upd_same, upd_other _ _ _ _ (fun e2 => e (hinj b a hbb his e2))]
      exact (hnew b _ e (hr b hbb hlb)).2
     ·rw [getD_set_ne true (fun e2 => e' e2.symm)] at hla
      rw [upd_other _ _ _ _ (fun e2 => e' (hinj a i ha his e2)), upd_other _ _ _ _ (fun e2 => e (hinj b i hbb his e2))]
      exact hS a b ha hbb hab hla hlb)
  unfold wpOp
  simp only [ho]
  split
  ·rename_i hw; rw [if_pos hw] at hk; exact .inl hk
  ·rename_i hw; rw [if_neg hw] at hk; exact hk
def StepAll2 (P : Program) (ops : Array Oper) (Q : Exit → Act → World → Prop) (md : Region.Mode) (mk : (Nat → Value) → Act) (d : Nat → Nat) (w0 : World) (R : Nat → Value → World → Prop) (S : Nat → Nat → Value → Value → Prop) : Nat → List Oper → Prop
 | _, [] => True
 | k, o :: l => StepOk2 P ops Q md mk d w0 R S k o ∧ StepAll2 P ops Q md mk d w0 R S (k + 1) l
theorem StepAll2.at {mk : (Nat → Value) → Act} {d : Nat → Nat} {w0 : World} {R : Nat → Value → World → Prop} {S : Nat → Nat → Value → Value → Prop} : ∀ (l : List Oper) (k : Nat), StepAll2 P ops Q md mk d w0 R S k l → ∀ j o, l[j]? = some o → StepOk2 P ops Q md mk d w0 R S (k + j) o
 | [], _, _, j, o, h => by simp at h
 | x :: l, k, h, 0, o, ho => by
  obtain rfl : x = o := by simpa using ho
  exact h.1
 | x :: l, k, h, j + 1, o, ho => by
  have := StepAll2.at l (k + 1) h.2 j o (by simpa using ho)
  rwa [show k + (j + 1) = k + 1 + j by omega]
theorem region_rel2 {id : Nat} {a : Act} {w : World} {l : List Oper} (f0 : Nat → Value) (mk : (Nat → Value) → Act) (d : Nat → Nat) (R : Nat → Value → World → Prop) (S : Nat → Nat → Value → Value → Prop) (ha : a = mk f0)
  (hm : P.follows .mixedOrders = true) (hR : ∀ i u w w', Below w.heap.size w w' → R i u w → R i u w')
  (hlex : lexDeps .any l.toArray = true) (hinj : injB l.length d = true)
  (hput : ∀ j, j < l.length → ∀ f v, (mk f).put (some (d j)) v = mk (upd f (d j) v))
  (hstep : StepAll2 P l.toArray Q .any mk d w.drew R S 0 l)
  (hend : ∀ f w', Below w.heap.size w w' → (∀ j, j < l.length → R j (f (d j)) w') → (∀ i j, i < l.length → j < l.length → i ≠ j → S i j (f (d i)) (f (d j))) → Q .normal (mk f) w') : (Code.region id l.toArray true).wp P Q a w := by
 subst ha
 refine wp_region_any hm ?_
 have hb0 : Below w.drew.heap.size w.drew w.drew := Below.refl _ _
 refine wpAny_rel2 mk d w.drew R S hR hlex ?_ (by simpa using hput) ?_ ?_ _ _ f0 w.drew (by simp) ?_ hb0 ?_ ?_
 ·intro i j hi hj e
  have h1 := List.all_eq_true.1 hinj i (List.mem_range.2 (by simpa using hi))
  have h2 := List.all_eq_true.1 h1 j (List.mem_range.2 (by simpa using hj))
  simpa [e] using h2
 ·intro j o ho
  have := hstep.at l 0 j o (by simpa using ho)
  rwa [Nat.zero_add] at this
 ·intro f w' hb h hS
  exact hend f w' ⟨hb.os, hb.tape, hb.output, hb.size, hb.block⟩ (by simpa using h) (by simpa using hS)
 ·unfold unl; simp
  exact Nat.le_trans List.countP_le_length (by simp)
 ·intro j hj hl
  simp at hj
  simp [hj] at hl
 ·intro i j hi hj _ hl
  simp at hi
  simp [hi] at hl
end
end Go.Proofs.Ytlhpjfnfemebdaa
namespace Go.Proofs.Ytlhpjfnfemebdaa
open Go.RowKit
def headA (m n : Nat) : Array Bool := (List.replicate n true ++ List.replicate (m - n) false).toArray
section
variable {P : Program} {ops : Array Oper} {Q : Exit → Act → World → Prop} {md : Region.Mode}
theorem head_eq {n : Nat} {listed : Array Bool} (inv : HeadInv md ops n listed) (hn : n ≤ ops.size) (hall : ∀ j, j < n → listed.getD j true = true) : listed = headA ops.size n := by
 have hs := inv.size
 refine Array.ext (by simp [headA]; omega) fun j h1 h2 => ?_
 have e1 : listed.getD j true = listed[j] := by simp [h1]
 by_cases hj : j < n
 ·have := hall j hj
  rw [e1] at this
  rw [this]
  simp [headA, hj]
 ·have := inv.tail j (by omega) (by omega)
  rw [e1] at this
  rw [this]
  simp [headA, List.getElem_append, hj]
theorem unl_head {m n : Nat} : unl (headA m n) = m - n := by
 simp [unl, headA, List.countP_replicate]
theorem wpAny_rel_tail (n : Nat) (mk : (Nat → Value) → Act) (d : Nat → Nat) (w0 : World) (R : Nat → Value → World → Prop)
  (hs : Region.sinkB md ops n = true) (hc : Region.chainB md ops n = true) (hn : n < ops.size) (hseq : Region.seqB md ops (ops.size - n) n (headA ops.size n) = true)
  (hR : ∀ i u w w', Below w.heap.size w w' → R i u w → R i u w')
  (hlex : lexDeps md ops = true) (hinj : ∀ i j, i < n → j < n → d i = d j → i = j)
  (hput : ∀ j, j < n → ∀ f v, (mk f).put (some (d j)) v = mk (upd f (d j) v))
  (hstep : ∀ j o, j < n → ops[j]? = some o → StepOk P ops Q md mk d w0 R j o)
  (hend : ∀ f w, Below w0.heap.size w0 w → (∀ j, j < n → R j (f (d j)) w) → wpList P ops Q (ops.toList.drop n) (mk f) w) :
  ∀ (fuel : Nat) (listed : Array Bool) (f : Nat → Value) (w : World), HeadInv md ops n listed → fuel = unl listed → Below w0.heap.size w0 w →
   (∀ j, j < n → listed.getD j true = true → R j (f (d j)) w) → wpAny P md ops Q fuel listed (mk f) w := by
 have hfin : ∀ (fuel : Nat) (listed : Array Bool) (f : Nat → Value) (w : World), HeadInv md ops n listed → fuel = unl listed → Below w0.heap.size w0 w →
   (∀ j, j < n → listed.getD j true = true → R j (f (d j)) w) → (∀ j, j < n → listed.getD j true = true) → wpAny P md ops Q fuel listed (mk f) w := by
  intro fuel listed f w inv hf hb hr hall
  have e := head_eq inv (Nat.le_of_lt hn) hall
  have hl : (ops.toList.drop n).length = ops.size - n := by simp
  have hfu : fuel = (ops.toList.drop n).length := by rw [hf, e, unl_head, hl]
  subst hfu
  refine wpAny_of_seq (ops.toList.drop n) n listed (mk f) w (fun j => by simp [List.getElem?_drop]) (by rw [hl, e]; exact hseq) (hend f w hb fun j hj => hr j hj (hall j hj))
 intro fuel
 induction fuel with
 | zero =>
  intro listed f w inv hf hb hr
  refine hfin 0 listed f w inv hf hb hr fun j hj => ?_
  cases hl : listed.getD j true with
  | true => rfl
  | false =>
   have hjs : j < listed.size := by rw [inv.size]; omega
   have hpos : 0 < listed.toList.countP (fun b => !b) := by
    rw [List.countP_pos_iff]
    refine ⟨listed[j], by simp, ?_⟩
    simpa [hjs] using hl
   unfold unl at hf
   omega
 | succ fuel ih =>
  intro listed f w inv hf hb hr
  by_cases hall : ∀ j, j < n → listed.getD j true = true
  ·exact hfin (fuel + 1) listed f w inv hf hb hr hall
  ·obtain ⟨j0, hj0, hl0⟩ : ∃ j, j < n ∧ listed.getD j true = false := by
    refine Classical.byContradiction fun hne => hall fun j hj => ?_
    cases hl : listed.getD j true with
    | true => rfl
    | false => exact absurd ⟨j, hj, hl⟩ hne
   refine ⟨fun h0 => ?_, fun i hi => ?_⟩
   ·exfalso
    have key : ∀ j, j < n → listed.getD j true = true := by
     intro j
     induction j using Nat.strongRecOn with
     | _ j ih =>
      intro hj
      cases hl : listed.getD j true with
      | true => rfl
      | false =>
       exfalso
       have hjs : j < ops.size := by omega
       have hm : j ∈ Region.ready md ops listed := by
        rw [mem_ready]
        refine ⟨hl, ops[j], by simp [hjs], fun e he hbd => ?_⟩
        have hle : e.on < j := by
         unfold lexDeps at hlex
         have := List.all_eq_true.1 hlex j (List.mem_range.2 hjs)
         simp only [Array.getElem?_eq_getElem hjs, Option.map_some, Option.getD_some, Array.all_eq_true'] at this
         have := this e he
         simpa [hbd] using this
        have h1 := ih e.on hle (by omega)
        have hsz : e.on < listed.size := by rw [inv.size]; omega
        simpa [hsz] using h1
       rw [h0] at hm
       cases hm
    exact hall key
   ·have hin : i < n := by
     rcases Nat.lt_or_ge i n with h | h
     ·exact h
     ·exact absurd hi (tail_waits hs hc hn inv (n - j0) j0 rfl hj0 hl0 i h)
    obtain ⟨hl, o, ho, hall2⟩ := mem_ready.1 hi
    have his : i < ops.size := (Array.getElem?_eq_some_iff.1 ho).1
    have hil : i < listed.size := by rw [inv.size]; omega
    have hdeps : ∀ k, waits md ops i k = true → R k (f (d k)) w := by
     intro k hk
     unfold waits at hk
     simp only [ho, Option.map_some, Option.getD_some, Array.any_eq_true', Bool.and_eq_true, beq_iff_eq] at hk
     obtain ⟨e, he, hbd, rfl⟩ := hk
     have hlf := hall2 e he hbd
     have hle : e.on < i := by
      unfold lexDeps at hlex
      have := List.all_eq_true.1 hlex i (List.mem_range.2 his)
      simp only [ho, Option.map_some, Option.getD_some, Array.all_eq_true'] at this
      have := this e he
      simpa [hbd] using this
     have hlt : e.on < listed.size := by omega
     exact hr e.on (by omega) (by simpa [hlt] using hlf)
    have hk := hstep i o hin ho f w hb hdeps (wpAny P md ops Q fuel (listed.setIfInBounds i true)) (by
     intro v w' hb' hv
     rw [hput i hin]
     refine ih _ _ _ (inv.set hi hin) ?_ (hb.trans (hb'.mono hb.size)) ?_
     ·unfold unl at hf ⊢
      have := unl_set listed.toList i (by simpa using hil) (by simpa [hil] using hl)
      rw [Array.toList_setIfInBounds]
      omega
     ·intro j hj hlj
      by_cases e : j = i
      ·subst e; rw [upd_same]; exact hv
      ·rw [upd_other _ _ _ _ (fun e2 => e (hinj j i hj hin e2))]
       refine hR j _ w w' hb' (hr j hj ?_)
       rw [getD_set_ne true (fun e2 => e e2.symm)] at hlj
       exact hlj)
    unfold wpOp
    simp only [ho]
    split
    ·rename_i hw; rw [if_pos hw] at hk; exact .inl hk
    ·rename_i hw; rw [if_neg hw] at hk; exact hk
theorem region_rel_tail {id : Nat} {a : Act} {w : World} {l : List Oper} (n : Nat) (f0 : Nat → Value) (mk : (Nat → Value) → Act) (d : Nat → Nat) (R : Nat → Value → World → Prop) (ha : a = mk f0)
  (hm : P.follows .mixedOrders = true) (hs : Region.sinkB .any l.toArray n = true) (hc : Region.chainB .any l.toArray n = true) (hn : n < l.length) (hseq : Region.seqB .any l.toArray (l.length - n) n (headA l.length n) = true)
  (hR : ∀ i u w w', Below w.heap.size w w' → R i u w → R i u w')
  (hlex : lexDeps .any l.toArray = true) (hinj : injB n d = true)
  (hput : ∀ j, j < n → ∀ f v, (mk f).put (some (d j)) v = mk (upd f (d j) v))
  (hstep : StepAll P l.toArray Q .any mk d w.drew R 0 (l.take n))
  (hend : ∀ f w', Below w.heap.size w w' → (∀ j, j < n → R j (f (d j)) w') → wpList P l.toArray Q (l.drop n) (mk f) w') : (Code.region id l.toArray true).wp P Q a w := by
 subst ha
 refine wp_region_any hm ?_
 have hb0 : Below w.drew.heap.size w.drew w.drew := Below.refl _ _
 have inv0 : HeadInv .any l.toArray n (Array.replicate l.toArray.size false) :=
  ⟨by simp, fun j oj _ hl => (by rw [getD_replicate_false] at hl; cases hl), fun t _ ht => getD_in (by simpa using ht) (getD_replicate_false _ _)⟩
 refine wpAny_rel_tail n mk d w.drew R hs hc (by simpa using hn) (by simpa using hseq) hR hlex ?_ hput ?_ ?_ _ _ f0 w.drew inv0 ?_ hb0 ?_
 ·intro i j hi hj e
  have h1 := List.all_eq_true.1 hinj i (List.mem_range.2 hi)
  have h2 := List.all_eq_true.1 h1 j (List.mem_range.2 hj)
  simpa [e] using h2
 ·intro j o hj ho
  have := hstep.at (l.take n) 0 j o (by rw [List.getElem?_take, if_pos hj]; simpa using ho)
  rwa [Nat.zero_add] at this
 ·intro f w' hb h
  exact hend f w' ⟨hb.os, hb.tape, hb.output, hb.size, hb.block⟩ h
 ·unfold unl; simp [List.countP_replicate]
 ·intro j hj hl
  have hjl : j < l.length := by omega
  simp [hjl] at hl
end
end Go.Proofs.Ytlhpjfnfemebdaa
