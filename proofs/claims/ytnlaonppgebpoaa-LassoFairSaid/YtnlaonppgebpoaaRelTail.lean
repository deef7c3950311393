/-
  As AnyRel, and a tail of operations in the order of the text.
-/
import Derived.Test.YtnlaonppgebpoaaAnyRel
namespace Go.Proofs.Ytnlaonppgebpoaa
open Go.RowKit

def headA (m n : Nat) : Array Bool := (List.replicate n true ++ List.replicate (m - n) false).toArray
section
variable {P : Program} {ops : Array Oper} {Q : Exit → Act → World → Prop} {md : Region.Mode}
theorem head_eq {n : Nat} {listed : Array Bool} (inv : HeadInv md ops n listed) (hn : n ≤ ops.size) (hall : ∀ j, j < n → listed.getD j true = true) : listed = headA ops.size n := by
  have hs := inv.size
  refine Array.ext (by simp [headA]; omega) fun j h1 h2 => ?_
  have e1 : listed.getD j true = listed[j] := by simp [h1]
  by_cases hj : j < n
  · have := hall j hj
    rw [e1] at this
    rw [this]
    simp [headA, hj]
  · have := inv.tail j (by omega) (by omega)
    rw [e1] at this
    rw [this]
    simp [headA, List.getElem_append, hj]
theorem unl_head {m n : Nat} : unl (headA m n) = m - n := by
  simp [unl, headA, List.countP_replicate]
theorem wpAny_rel_tail (n : Nat) (mk : (Nat → Value) → Act) (d : Nat → Nat) (w0 : World) (R : Nat → Value → World → Prop)
    (hs : Region.sinkB md ops n = true) (hc : Region.chainB md ops n = true) (hn : n < ops.size) (hseq : Region.seqB md ops (ops.size - n) n (headA ops.size n) = true)
    (hR : ∀ i u w w', Below w.heap.size w w' → R i u w → R i u w')
    (hlex : lexDeps md ops = true) (hinj : ∀ i j, i < n → j < n → d i = d j → i = j)
    (hput : ∀ j, j < n → ∀ f v, (mk f).put (some (d j)) v = mk (upd f (d j) v))
    (hstep : ∀ j o, j < n → ops[j]? = some o → StepOk P ops Q md mk d w0 R j o)
    (hend : ∀ f w, Below w0.heap.size w0 w → (∀ j, j < n → R j (f (d j)) w) → wpList P ops Q (ops.toList.drop n) (mk f) w) :
    ∀ (fuel : Nat) (listed : Array Bool) (f : Nat → Value) (w : World), HeadInv md ops n listed → fuel = unl listed → Below w0.heap.size w0 w →
      (∀ j, j < n → listed.getD j true = true → R j (f (d j)) w) → wpAny P md ops Q fuel listed (mk f) w := by
  have hfin : ∀ (fuel : Nat) (listed : Array Bool) (f : Nat → Value) (w : World), HeadInv md ops n listed → fuel = unl listed → Below w0.heap.size w0 w →
      (∀ j, j < n → listed.getD j true = true → R j (f (d j)) w) → (∀ j, j < n → listed.getD j true = true) → wpAny P md ops Q fuel listed (mk f) w := by
    intro fuel listed f w inv hf hb hr hall
    have e := head_eq inv (Nat.le_of_lt hn) hall
    have hl : (ops.toList.drop n).length = ops.size - n := by simp
    have hfu : fuel = (ops.toList.drop n).length := by rw [hf, e, unl_head, hl]
    subst hfu
    refine wpAny_of_seq (ops.toList.drop n) n listed (mk f) w (fun j => by simp [List.getElem?_drop]) (by rw [hl, e]; exact hseq) (hend f w hb fun j hj => hr j hj (hall j hj))
  intro fuel
  induction fuel with
  | zero =>
    intro listed f w inv hf hb hr
    refine hfin 0 listed f w inv hf hb hr fun j hj => ?_
    cases hl : listed.getD j true with
    | true => rfl
    | false =>
      have hjs : j < listed.size := by rw [inv.size]; omega
      have hpos : 0 < listed.toList.countP (fun b => !b) := by
        rw [List.countP_pos_iff]
        refine ⟨listed[j], by simp, ?_⟩
        simpa [hjs] using hl
      unfold unl at hf
      omega
  | succ fuel ih =>
    intro listed f w inv hf hb hr
    by_cases hall : ∀ j, j < n → listed.getD j true = true
    · exact hfin (fuel + 1) listed f w inv hf hb hr hall
    · obtain ⟨j0, hj0, hl0⟩ : ∃ j, j < n ∧ listed.getD j true = false := by
        refine Classical.byContradiction fun hne => hall fun j hj => ?_
        cases hl : listed.getD j true with
        | true => rfl
        | false => exact absurd ⟨j, hj, hl⟩ hne
      refine ⟨fun h0 => ?_, fun i hi => ?_⟩
      · exfalso
        have key : ∀ j, j < n → listed.getD j true = true := by
          intro j
          induction j using Nat.strongRecOn with
          | _ j ih =>
            intro hj
            cases hl : listed.getD j true with
            | true => rfl
            | false =>
              exfalso
              have hjs : j < ops.size := by omega
              have hm : j ∈ Region.ready md ops listed := by
                rw [mem_ready]
                refine ⟨hl, ops[j], by simp [hjs], fun e he hbd => ?_⟩
                have hle : e.on < j := by
                  unfold lexDeps at hlex
                  have := List.all_eq_true.1 hlex j (List.mem_range.2 hjs)
                  simp only [Array.getElem?_eq_getElem hjs, Option.map_some, Option.getD_some, Array.all_eq_true'] at this
                  have := this e he
                  simpa [hbd] using this
                have h1 := ih e.on hle (by omega)
                have hsz : e.on < listed.size := by rw [inv.size]; omega
                simpa [hsz] using h1
              rw [h0] at hm
              cases hm
        exact hall key
      · have hin : i < n := by
          rcases Nat.lt_or_ge i n with h | h
          · exact h
          · exact absurd hi (tail_waits hs hc hn inv (n - j0) j0 rfl hj0 hl0 i h)
        obtain ⟨hl, o, ho, hall2⟩ := mem_ready.1 hi
        have his : i < ops.size := (Array.getElem?_eq_some_iff.1 ho).1
        have hil : i < listed.size := by rw [inv.size]; omega
        have hdeps : ∀ k, waits md ops i k = true → R k (f (d k)) w := by
          intro k hk
          unfold waits at hk
          simp only [ho, Option.map_some, Option.getD_some, Array.any_eq_true', Bool.and_eq_true, beq_iff_eq] at hk
          obtain ⟨e, he, hbd, rfl⟩ := hk
          have hlf := hall2 e he hbd
          have hle : e.on < i := by
            unfold lexDeps at hlex
            have := List.all_eq_true.1 hlex i (List.mem_range.2 his)
            simp only [ho, Option.map_some, Option.getD_some, Array.all_eq_true'] at this
            have := this e he
            simpa [hbd] using this
          have hlt : e.on < listed.size := by omega
          exact hr e.on (by omega) (by simpa [hlt] using hlf)
        have hk := hstep i o hin ho f w hb hdeps (wpAny P md ops Q fuel (listed.setIfInBounds i true)) (by
          intro v w' hb' hv
          rw [hput i hin]
          refine ih _ _ _ (inv.set hi hin) ?_ (hb.trans (hb'.mono hb.size)) ?_
          · unfold unl at hf ⊢
            have := unl_set listed.toList i (by simpa using hil) (by simpa [hil] using hl)
            rw [Array.toList_setIfInBounds]
            omega
          · intro j hj hlj
            by_cases e : j = i
            · subst e; rw [upd_same]; exact hv
            · rw [upd_other _ _ _ _ (fun e2 => e (hinj j i hj hin e2))]
              refine hR j _ w w' hb' (hr j hj ?_)
              rw [getD_set_ne true (fun e2 => e e2.symm)] at hlj
              exact hlj)
        unfold wpOp
        simp only [ho]
        split
        · rename_i hw; rw [if_pos hw] at hk; exact .inl hk
        · rename_i hw; rw [if_neg hw] at hk; exact hk

theorem region_rel_tail {id : Nat} {a : Act} {w : World} {l : List Oper} (n : Nat) (f0 : Nat → Value) (mk : (Nat → Value) → Act) (d : Nat → Nat) (R : Nat → Value → World → Prop) (ha : a = mk f0)
    (hm : P.follows .mixedOrders = true) (hs : Region.sinkB .any l.toArray n = true) (hc : Region.chainB .any l.toArray n = true) (hn : n < l.length) (hseq : Region.seqB .any l.toArray (l.length - n) n (headA l.length n) = true)
    (hR : ∀ i u w w', Below w.heap.size w w' → R i u w → R i u w')
    (hlex : lexDeps .any l.toArray = true) (hinj : injB n d = true)
    (hput : ∀ j, j < n → ∀ f v, (mk f).put (some (d j)) v = mk (upd f (d j) v))
    (hstep : StepAll P l.toArray Q .any mk d w.drew R 0 (l.take n))
    (hend : ∀ f w', Below w.heap.size w w' → (∀ j, j < n → R j (f (d j)) w') → wpList P l.toArray Q (l.drop n) (mk f) w') : (Code.region id l.toArray true).wp P Q a w := by
  subst ha
  refine wp_region_any hm ?_
  have hb0 : Below w.drew.heap.size w.drew w.drew := Below.refl _ _
  have inv0 : HeadInv .any l.toArray n (Array.replicate l.toArray.size false) :=
    ⟨by simp, fun j oj _ hl => (by rw [getD_replicate_false] at hl; cases hl), fun t _ ht => getD_in (by simpa using ht) (getD_replicate_false _ _)⟩
  refine wpAny_rel_tail n mk d w.drew R hs hc (by simpa using hn) (by simpa using hseq) hR hlex ?_ hput ?_ ?_ _ _ f0 w.drew inv0 ?_ hb0 ?_
  · intro i j hi hj e
    have h1 := List.all_eq_true.1 hinj i (List.mem_range.2 hi)
    have h2 := List.all_eq_true.1 h1 j (List.mem_range.2 hj)
    simpa [e] using h2
  · intro j o hj ho
    have := hstep.at (l.take n) 0 j o (by rw [List.getElem?_take, if_pos hj]; simpa using ho)
    rwa [Nat.zero_add] at this
  · intro f w' hb h
    exact hend f w' ⟨hb.os, hb.tape, hb.output, hb.size, hb.block⟩ h
  · unfold unl; simp [List.countP_replicate]
  · intro j hj hl
    have hjl : j < l.length := by omega
    simp [hjl] at hl
end
end Go.Proofs.Ytnlaonppgebpoaa
