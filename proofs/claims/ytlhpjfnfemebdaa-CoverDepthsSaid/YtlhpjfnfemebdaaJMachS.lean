/-
  Store buffers: how many, whether there is room, what was stored last, whether two are alike. A region that draws its order: a head of operations that are quiet in a class of worlds (reads, and calls that lay blocks of their own), then a tail of writes in the order of the text.
-/
import Derived.Deep.AppendLies
import Derived.Deep.OwnRows
import Derived.Deep.RegionLaw
import Derived.Deep.RegionWith
import Derived.Laws.CopyOwn
import Derived.Maps.OwnSet
import Derived.Shelf.Abstract
import Derived.Test.YtlhpjfnfemebdaaRows
import Derived.Test.YtlhpjfnfemebdaaJBase
namespace Go.Proofs.Ytlhpjfnfemebdaa
open Go.RowKit
abbrev En : Type := Int × Int
def EnsAt (w : World) (v : Value) (l : List En) : Prop := ∃ a cap, v = .slice a l.length cap ∧ ∀ j, j < l.length → ∃ b o, a = some ⟨b, o, none⟩ ∧ w.cell? ⟨b, o + j * 2, none⟩ = some (.int .i64 (l.getD j (0, 0)).1) ∧ w.cell? ⟨b, o + j * 2 + 1, none⟩ = some (.int .i64 (l.getD j (0, 0)).2)
theorem EnsAt.below {w w' : World} {v : Value} {l : List En} (h : EnsAt w v l) (hb : Below w.heap.size w w') : EnsAt w' v l :=
 let ⟨a, c, e, h1⟩ := h
 ⟨a, c, e, fun j hj => let ⟨b, o, e, h2, h3⟩ := h1 j hj; ⟨b, o, e, bkeep hb h2, bkeep hb h3⟩⟩
def cntK (b : List En) (loc : Int) : Nat → Nat
 | 0 => 0
 | k + 1 => cntK b loc k + if (b.getD k (0, 0)).1 = loc then 1 else 0
def cntE (b : List En) (loc : Int) : Nat := cntK b loc b.length
theorem cntK_le (b : List En) (loc : Int) : ∀ k, cntK b loc k ≤ k
 | 0 => Nat.le_refl _
 | k + 1 => by have := cntK_le b loc k; rw [cntK]; split <;> omega
set_option maxRecDepth 100000 in
set_option maxHeartbeats 8000000 in
theorem count_ok (v : Value) (b : List En) (loc : Int) (w : World) (h : EnsAt w v b) (hl : b.length ≤ 1000000) :
  Calls Try.prog 81 #[v, .int .i64 loc] w fun r w' => r = .returned (.int .i64 (cntE b loc : Nat)) ∧ Below w.heap.size w w' := by
 obtain ⟨a, ac, rfl, ha⟩ := h
 have HA := Lib.hid ha
 have HS : Hid (∀ k, cntK b loc (k + 1) = cntK b loc k + if (b.getD k (0, 0)).1 = loc then 1 else 0) := Lib.hid (fun k => rfl)
 have HL := Lib.hid (cntK_le b loc)
 have H0 : Hid (cntK b loc 0 = 0) := Lib.hid rfl
 unfold cntE
 clear ha
 generalize cntK b loc = CK at *
 go_enter Try.func81, Try.ntmps81
 go_wp2_with fail
 go_loopg [5, 6] b.length (fun fu nv c wr => ∃ k : Nat, k + fu = b.length ∧ nv = .int .i64 (CK k : Nat) ∧ c = .int .i64 k ∧ Hid (Below w.heap.size w wr))
 case atStart => exact ⟨0, by omega, by rw [H0.out]; rfl, rfl, Lib.hid (Below.refl _ _)⟩
 case round =>
  obtain ⟨k, hk, rfl, rfl, HB⟩ := hrel
  by_cases hlt : k < b.length
  ·obtain ⟨b1, o1, rfl, d1, -⟩ := HA.out k hlt
   have d1 := bkeep HB.out d1
   have z1 : (k : Int) < (b.length : Int) := by omega
   have hck := HL.out k
   have hs := HS.out k
   clear HL HS H0
   generalize (b.getD k (0, 0)).1 = x at *
   generalize hc1 : CK (k + 1) = c1 at *
   generalize CK k = c0 at *
   by_cases hx : x = loc
   ·rw [if_pos hx] at hs
    have n1 : (x == loc) = true := by simp [hx]
    have HC := Lib.hid hc1
    clear hc1
    subst hs
    go_wp2_with fail
    go_roundg (b.length - (k + 1))
    case measure => omega
    case rel => exact ⟨k + 1, by omega, by rw [HC.out]; simp, by simp, HB⟩
   ·rw [if_neg hx] at hs
    have n1 : (x == loc) = false := beq_false_of_ne hx
    have HC := Lib.hid hc1
    clear hc1
    subst hs
    go_wp2_with fail
    go_roundg (b.length - (k + 1))
    case measure => omega
    case rel => exact ⟨k + 1, by omega, by rw [HC.out], by simp, HB⟩
  ·obtain hkk : k = b.length := by omega
   subst hkk
   go_wp2_with fail
   go_ret
   exact ⟨rfl, HB.out⟩
def roomE (b : List En) (model room loc : Int) : Bool := if model = 2 then decide ((b.length : Int) < room) else if model = 3 then decide ((cntE b loc : Int) < room) else false
set_option maxRecDepth 100000 in
set_option maxHeartbeats 4000000 in
theorem room_ok (v : Value) (b : List En) (model room loc : Int) (w : World) (h : EnsAt w v b) (hl : b.length ≤ 1000000) :
  Calls Try.prog 64 #[v, .int .i64 model, .int .i64 room, .int .i64 loc] w fun r w' => r = .returned (.bool (roomE b model room loc)) ∧ Below w.heap.size w w' := by
 have HC := Lib.hid (fun (w' : World) (hb : Below w.heap.size w w') => count_ok v b loc w' (h.below hb) hl)
 obtain ⟨a, ac, rfl, -⟩ := h
 by_cases h2 : model = 2
 ·subst h2
  go_enter Try.func64, Try.ntmps64
  go_wp2_with fail
  go_ret
  exact ⟨rfl, Below.refl _ _⟩
 have n2 : (model == 2) = false := beq_false_of_ne h2
 by_cases h3 : model = 3
 ·subst h3
  generalize hcn : cntE b loc = cn at *
  have E : roomE b 3 room loc = decide ((cn : Int) < room) := by unfold roomE; rw [hcn]; rfl
  rw [E]
  clear E hcn
  go_enter Try.func64, Try.ntmps64
  go_wp2_with (go_at_call 81; refine (HC.out _ (Below.refl _ _)).mono ?_; rintro e1 w1 ⟨rfl, hb1⟩; have B1 := Lib.hid hb1; clear hb1)
  go_ret
  exact ⟨rfl, B1.out⟩
 have n3 : (model == 3) = false := beq_false_of_ne h3
 have E : roomE b model room loc = false := by unfold roomE; rw [if_neg h2, if_neg h3]
 rw [E]
 clear E h2 h3
 go_enter Try.func64, Try.ntmps64
 go_wp2_with fail
 go_ret
 exact ⟨rfl, Below.refl _ _⟩
def lastK (b : List En) (loc : Int) : Nat → Option Int
 | 0 => none
 | k + 1 => if (b.getD k (0, 0)).1 = loc then some (b.getD k (0, 0)).2 else lastK b loc k
def lastE (b : List En) (loc : Int) : Option Int := lastK b loc b.length
set_option maxRecDepth 100000 in
set_option maxHeartbeats 8000000 in
theorem last_ok (v : Value) (b : List En) (loc : Int) (w : World) (h : EnsAt w v b) (hl : b.length ≤ 1000000) :
  Calls Try.prog 82 #[v, .int .i64 loc] w fun r w' => r = .returned (.tuple #[.int .i64 ((lastE b loc).getD 0), .bool (lastE b loc).isSome]) ∧ Below w.heap.size w w' := by
 obtain ⟨a, ac, rfl, ha⟩ := h
 have HA := Lib.hid ha
 have HS : Hid (∀ k, lastK b loc (k + 1) = if (b.getD k (0, 0)).1 = loc then some (b.getD k (0, 0)).2 else lastK b loc k) := Lib.hid (fun k => rfl)
 have H0 : Hid (lastK b loc 0 = none) := Lib.hid rfl
 have HE : Hid (lastE b loc = lastK b loc b.length) := Lib.hid rfl
 clear ha
 generalize lastE b loc = RES at *
 generalize lastK b loc = LK at *
 go_enter Try.func82, Try.ntmps82
 go_wp2_with fail
 go_loopg [6] (b.length) (fun fu c wr => fu ≤ b.length ∧ c = .int .i64 ((fu : Int) - 1) ∧ Hid (RES = LK fu) ∧ Hid (Below w.heap.size w wr))
 case atStart => exact ⟨Nat.le_refl _, rfl, HE, Lib.hid (Below.refl _ _)⟩
 case round =>
  obtain ⟨hf, rfl, HR, HB⟩ := hrel
  cases gk with
  | zero =>
   have E := Lib.hid (HR.out.trans H0.out)
   have e0 : ((0 : Nat) : Int) - 1 = -1 := by omega
   rw [e0]
   go_wp2_with fail
   refine bodyPost_ret (v := .tuple #[.int .i64 0, .bool false]) (by simp [results, Try.results82, go_sem]) rfl ?_
   exact ⟨by rw [E.out]; rfl, HB.out⟩
  | succ j =>
   have e0 : ((j + 1 : Nat) : Int) - 1 = (j : Int) := by omega
   rw [e0]
   obtain ⟨b1, o1, rfl, d1, d2⟩ := HA.out j (by omega)
   have d1 := bkeep HB.out d1
   have d2 := bkeep HB.out d2
   have z0 : 0 ≤ (j : Int) := by omega
   have z1 : (j : Int) < (b.length : Int) := by omega
   have hs := HS.out j
   clear HS H0 HE
   generalize (b.getD j (0, 0)).1 = x at *
   generalize (b.getD j (0, 0)).2 = y at *
   by_cases hx : x = loc
   ·rw [if_pos hx] at hs
    have n1 : (x == loc) = true := by simp [hx]
    have E := Lib.hid (HR.out.trans hs)
    clear hs
    go_wp2_with fail
    refine bodyPost_ret (v := .tuple #[.int .i64 y, .bool true]) (by simp [results, Try.results82, go_sem]) rfl ?_
    exact ⟨by rw [E.out]; rfl, HB.out⟩
   ·rw [if_neg hx] at hs
    have n1 : (x == loc) = false := beq_false_of_ne hx
    have E := Lib.hid (HR.out.trans hs)
    clear hs
    go_wp2_with fail
    go_roundg j
    case measure => omega
    case rel => exact ⟨by omega, by simp, E, HB⟩
theorem ens_neq (x y x' y' : Int) (w : World) : (binOp .neq 103 (.agg #[.int .i64 x, .int .i64 y]) (.agg #[.int .i64 x', .int .i64 y'])).run Try.prog w = .ok (.bool (!((x == x') && (y == y')))) w := by
 by_cases h1 : x = x' <;> by_cases h2 : y = y' <;> simp [go_sem, h1, h2]
end Go.Proofs.Ytlhpjfnfemebdaa
namespace Go.Proofs.Ytlhpjfnfemebdaa
open Go.RowKit
section
variable {P : Program} {ops : Array Oper} {md : Region.Mode} {C : World → Prop}
def wpAnyLQ (P : Program) (md : Region.Mode) (ops : Array Oper) (C : World → Prop) (n : Nat) (L : Array Bool → Act → Prop) : Nat → Array Bool → Act → Prop
 | 0, listed, a => L listed a
 | f + 1, listed, a =>
  Region.ready md ops listed ≠ [] ∧ ∀ i ∈ Region.ready md ops listed, i < n ∧ qOp P ops C i (wpAnyLQ P md ops C n L f (listed.setIfInBounds i true)) a
theorem wpAny_of_headQ {n g : Nat} {L : Array Bool → Act → Prop} {Q' : Exit → Act → World → Prop} (hL : ∀ listed a w, C w → L listed a → wpAny P md ops Q' g listed a w) :
  ∀ (f : Nat) (listed : Array Bool) (a : Act) (w : World), C w → wpAnyLQ P md ops C n L f listed a → wpAny P md ops Q' (f + g) listed a w
 | 0, listed, a, w, hw, h => by rw [Nat.zero_add]; exact hL _ _ _ hw h
 | f + 1, listed, a, w, hw, h => by
  rw [show f + 1 + g = (f + g) + 1 by omega]
  exact ⟨fun h0 => absurd h0 h.1, fun i hi => wpOp_of_qOp hw (fun a' w' hw' h' => wpAny_of_headQ hL f _ a' w' hw' h') (h.2 i hi).2⟩
theorem wpAnyLQ_first {n i : Nat} {oi : Oper} {v : Value} {L : Array Bool → Act → Prop} (hi : ops[i]? = some oi) (hsel : ∀ (j : Nat) (o : Oper) cs b, ops[j]? = some o → o.op ≠ .select cs b)
  (hs : Region.sinkB md ops n = true) (hc : Region.chainB md ops n = true) (hn : n < ops.size) (hin : i < n)
  (hdone : ∀ listed a, L listed a → ∀ j ∈ Region.ready md ops listed, n ≤ j) :
  ∀ (f : Nat) (listed : Array Bool) (a : Act), HeadInv md ops n listed →
   (∀ j oj, ops[j]? = some oj → j ≠ i → listed.getD j true = false → (∀ e ∈ oj.after, Region.binds md e = true → e.on ≠ i) → oi.apart ops oj = true) →
   i ∈ Region.ready md ops listed → YieldsIn P ops C oi v a →
   wpAnyLQ P md ops C n L f (listed.setIfInBounds i true) (a.put oi.dst v) → wpAnyLQ P md ops C n L (f + 1) listed a := by
 intro f
 induction f with
 | zero =>
  intro listed a inv _ hr hy H
  have hun := (mem_ready.1 hr).1
  refine ⟨fun h => (by rw [h] at hr; cases hr), fun j hj => ?_⟩
  have hjn : j < n := by
   rcases Nat.lt_or_ge j n with h | h
   ·exact h
   ·exact absurd hj (tail_waits hs hc hn inv _ i rfl hin hun j h)
  refine ⟨hjn, ?_⟩
  by_cases hji : j = i
  ·subst hji; exact hy.qOp hi H
  ·have := hdone _ _ H j (ready_mono hj hji)
   omega
 | succ f ih =>
  intro listed a inv hfree hr hy H
  have hun := (mem_ready.1 hr).1
  refine ⟨fun h => (by rw [h] at hr; cases hr), fun j hj => ?_⟩
  have hjn : j < n := by
   rcases Nat.lt_or_ge j n with h | h
   ·exact h
   ·exact absurd hj (tail_waits hs hc hn inv _ i rfl hin hun j h)
  refine ⟨hjn, ?_⟩
  by_cases hji : j = i
  ·subst hji; exact hy.qOp hi H
  ·have h1 := (H.2 j (ready_mono hj hji)).2
   obtain ⟨hjun, oj, hoj, hall⟩ := mem_ready.1 hj
   have hnot : ∀ e ∈ oj.after, Region.binds md e = true → e.on ≠ i := fun e he hb heq => by
    have h1 := hall e he hb
    rw [heq, getD_both hun] at h1
    cases h1
   have h2 := qOp_put hoj (hfree j oj hoj hji hjun hnot) (fun cs b => hsel i oi cs b hi) (fun cs b => hsel j oj cs b hoj) hy h1
   have hfree' : ∀ k ok, ops[k]? = some ok → k ≠ i → (listed.setIfInBounds j true).getD k true = false →
     (∀ e ∈ ok.after, Region.binds md e = true → e.on ≠ i) → oi.apart ops ok = true := fun k ok hk hki hun hno => by
    refine hfree k ok hk hki ?_ hno
    by_cases hjk : j = k
    ·subst hjk; exact hjun
    ·rw [getD_set_ne true hjk] at hun; exact hun
   refine qOp_mono (fun a' h3 => ih (listed.setIfInBounds j true) a' (inv.set hj hjn) hfree' (ready_mono hr (Ne.symm hji)) h3.1 ?_) h2
   rw [Array.setIfInBounds_comm _ _ hji]
   exact h3.2
theorem wpAnyLQ_lex {n g : Nat} {Lq : Act → Prop} (hsel : Region.noSelect ops = true) (hs : Region.sinkB md ops n = true) (hc : Region.chainB md ops n = true) (hn : n < ops.size) :
  ∀ (l : List Oper) (k : Nat) (listed : Array Bool) (a : Act), (∀ j, j < l.length → l[j]? = ops[k + j]?) → k + l.length = n → HeadInv md ops n listed →
  Region.lexHead md ops g l.length k listed = true → wpQuiet P ops C Lq l a →
  wpAnyLQ P md ops C n (fun listed' a' => Region.seqB md ops g n listed' = true ∧ Lq a') l.length listed a
 | [], k, listed, a, _, hk, _, hB, h => by
  have : k = n := by simpa using hk
  subst this
  exact ⟨by simpa [Region.lexHead] using hB, h⟩
 | o :: l, k, listed, a, hl, hk, inv, hB, h => by
  have h0 : ops[k]? = some o := by simpa using (hl 0 (by simp)).symm
  simp only [List.length_cons, Region.lexHead, Bool.and_eq_true] at hB
  obtain ⟨⟨hr, hf⟩, hB'⟩ := hB
  have hkn : k < n := by simp only [List.length_cons] at hk; omega
  have hr' : k ∈ Region.ready md ops listed := by simpa using hr
  have hst : qOp P ops C k (wpQuiet P ops C Lq l) a := by unfold qOp; simp only [h0]; exact h
  obtain ⟨v, hy, hK⟩ := yieldsIn_of_qOp h0 hst
  exact wpAnyLQ_first h0 (Region.noSelect_spec hsel) hs hc hn hkn (fun listed' a' hL => seqB_ready hL.1) l.length listed a inv (Region.free_spec h0 hf) hr' hy
   (wpAnyLQ_lex hsel hs hc hn l (k + 1) _ _ (fun j hj => by have := hl (j + 1) (by simp; omega); simpa [Nat.add_assoc, Nat.add_comm 1 j] using this) (by simp only [List.length_cons] at hk; omega) (inv.set hr' hkn) hB' hK)
theorem region_qtail {id : Nat} {Q : Exit → Act → World → Prop} {a : Act} {w : World} {l : List Oper} (n : Nat) (hm : P.follows .mixedOrders = true) (hB : Region.lexTailB .any l.toArray n = true)
  (h : wpQuiet P l.toArray (fun w' => ∃ i : Sub w, w' = i.1) (fun a' => ∀ w', Below w.heap.size w w' → wpList P l.toArray Q (l.drop n) a' w') (l.take n) a) : (Code.region id l.toArray true).wp P Q a w := by
 simp only [Region.lexTailB, Bool.and_eq_true, decide_eq_true_eq] at hB
 obtain ⟨⟨⟨⟨hsel, hn⟩, hs⟩, hc⟩, hlex⟩ := hB
 have hn' : n < l.length := by simpa using hn
 have htl : (l.take n).length = n := by simp; omega
 have hdl : (l.drop n).length = l.toArray.size - n := by simp
 have inv0 : HeadInv .any l.toArray n (Array.replicate l.toArray.size false) :=
  ⟨by simp, fun j oj _ hl => (by rw [getD_replicate_false] at hl; cases hl), fun t _ ht => getD_in (by simpa using ht) (getD_replicate_false _ _)⟩
 have H := wpAnyLQ_lex (md := .any) (g := l.toArray.size - n) hsel hs hc hn (l.take n) 0 _ a (fun j hj => by
  have hj' : j < n := by rw [htl] at hj; exact hj
  simp [hj']) (by simpa using htl) inv0 (by rw [htl]; exact hlex) h
 refine wp_region_any hm ?_
 have := wpAny_of_headQ (Q' := Q) (g := l.toArray.size - n) (fun listed a' w' hw' hL => by
  have := wpAny_of_seq (P := P) (ops := l.toArray) (md := .any) (Q' := Q) (l.drop n) n listed a' w' (fun j => by simp [List.getElem?_drop]) (by rw [hdl]; exact hL.1) (by obtain ⟨i, rfl⟩ := hw'; exact hL.2 _ i.2)
  rwa [hdl] at this) _ _ _ { w with drawn := w.drawn + 1 } ⟨⟨w.drew, (Below.refl _ _).drew⟩, rfl⟩ H
 rw [htl, show n + (l.toArray.size - n) = l.toArray.size by omega] at this
 exact this
end
end Go.Proofs.Ytlhpjfnfemebdaa
