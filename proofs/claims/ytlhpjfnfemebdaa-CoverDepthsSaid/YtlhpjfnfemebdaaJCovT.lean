/-
  The path to a configuration. (Written by gen_to.py.) A drawn region of reads, and one call of whose row the length alone counts. How many are nearer than so far.
-/
import Derived.Lib.SliceRun
import Derived.Test.YtlhpjfnfemebdaaJCovD
import Derived.Test.YtlhpjfnfemebdaaJAnyRel
import Derived.Carry
import Derived.Deep.Grids
import Derived.Deep.Strs
import Derived.JoinedCond
import Derived.Laws.EntriesVeiled
import Derived.OpenShut
import Derived.ProofKit
import Derived.Test.YtlhpjfnfemebdaaJCovP
namespace Go.Proofs.Ytlhpjfnfemebdaa
open Go.RowKit
def toRel (base k : Nat) (l : List Int) (vs : List Value) (j : Nat) (v : Value) (w : World) : Prop :=
 if j = k then OwnI base w v l else v = vs.getD j undef
theorem toRel_mono {base k : Nat} {l : List Int} {vs : List Value} {j : Nat} {v : Value} {w w' : World} (hb : Below w.heap.size w w') (h : toRel base k l vs j v w) : toRel base k l vs j v w' := by
 unfold toRel at h ⊢
 split
 ·rename_i e
  rw [if_pos e] at h
  exact h.more hb
 ·rename_i e
  rw [if_neg e] at h
  exact h
def pathK (par ag : List Int) : Nat → Nat → List Int
 | 0, _ => []
 | f + 1, j => if j = 0 then [] else pathK par ag f (par.getD j 0).toNat ++ [ag.getD j 0]
theorem pathK_len (par ag : List Int) : ∀ f j, (pathK par ag f j).length = depK par f j
 | 0, _ => rfl
 | f + 1, j => by
  rw [pathK, depK]
  split
  ·rfl
  ·rw [List.length_append, pathK_len par ag f]; rfl
theorem pathK_fuel {par ag : List Int} {n : Nat} (h : ∀ j, 1 ≤ j → j < n → 0 ≤ par.getD j 0 ∧ par.getD j 0 < (j : Int)) : ∀ (f f' j : Nat), j ≤ f → j ≤ f' → j < n → pathK par ag f j = pathK par ag f' j
 | 0, f', j, h1, h2, h3 => by
  obtain rfl : j = 0 := by omega
  cases f' <;> simp [pathK]
 | f + 1, 0, j, h1, h2, h3 => by
  obtain rfl : j = 0 := by omega
  simp [pathK]
 | f + 1, f' + 1, j, h1, h2, h3 => by
  rw [pathK, pathK]
  split
  ·rfl
  ·have := h j (by omega) h3
   rw [pathK_fuel h f f' _ (by omega) (by omega) (by omega)]
def pathL (par ag : List Int) (j : Nat) : List Int := pathK par ag j j
theorem pathL_len (par ag : List Int) (j : Nat) : (pathL par ag j).length = depF par j := pathK_len par ag j j
theorem pathL_succ {par ag : List Int} {n j : Nat} (h : ∀ j, 1 ≤ j → j < n → 0 ≤ par.getD j 0 ∧ par.getD j 0 < (j : Int)) (h1 : 1 ≤ j) (hj : j < n) : pathL par ag j = pathL par ag (par.getD j 0).toNat ++ [ag.getD j 0] := by
 obtain ⟨i, rfl⟩ : ∃ i, j = i + 1 := ⟨j - 1, by omega⟩
 have hp := h (i + 1) h1 hj
 have hs : pathL par ag (i + 1) = pathK par ag i (par.getD (i + 1) 0).toNat ++ [ag.getD (i + 1) 0] := by
  unfold pathL
  rw [pathK, if_neg (by omega)]
 rw [hs]
 unfold pathL
 rw [pathK_fuel h i _ _ (by omega) (Nat.le_refl _) (by omega)]
set_option maxRecDepth 100000 in
set_option maxHeartbeats 32000000 in
theorem to_zero (v : Value) (s : Sp) (w : World) (h : SpV w v s) :
  Calls Try.prog 21 #[v, .int .i64 0] w fun r w' => ∃ rv, r = .returned rv ∧ OwnI w.heap.size w' rv [] ∧ Below w.heap.size w w' := by
 obtain ⟨vC, sa, sc, aa, ac, ta, tc, vP, vA, rfl, -⟩ := h.var
 have HB := Lib.hid (balloc w (.cells #[vC, .slice sa (buildG (s.confs.length : Int) s.ed).S.length sc, .slice aa (buildG (s.confs.length : Int) s.ed).A.length ac, .slice ta (buildG (s.confs.length : Int) s.ed).T.length tc, vP, vA] 32))
 clear h
 go_enter Try.func21, Try.ntmps21
 go_wp2_with fail
 go_ret
 exact ⟨_, rfl, OwnI.nil _ _, HB.out⟩
set_option maxRecDepth 100000 in
set_option maxHeartbeats 32000000 in
theorem to_ok (v : Value) (s : Sp) (hp : ∀ j, 1 ≤ j → j < s.confs.length → 0 ≤ s.par.getD j 0 ∧ s.par.getD j 0 < (j : Int)) (hlp : s.par.length = s.confs.length) (hla : s.ag.length = s.confs.length) (hn : s.confs.length ≤ 500) : ∀ (m i : Nat) (w : World), i ≤ m → i < s.confs.length → SpV w v s →
  Calls Try.prog 21 #[v, .int .i64 (i : Nat)] w fun r w' => ∃ rv, r = .returned rv ∧ OwnI w.heap.size w' rv (pathL s.par s.ag i) ∧ Below w.heap.size w w'
 | 0, i, w, hm, hi, h => by
  obtain rfl : i = 0 := by omega
  exact to_zero v s w h
 | m + 1, i, w, hm, hi, h => by
  by_cases h0 : i = 0
  ·subst h0
   exact to_zero v s w h
  have hpi := hp i (by omega) hi
  obtain ⟨p, hpp⟩ : ∃ p : Nat, s.par.getD i 0 = (p : Int) := ⟨(s.par.getD i 0).toNat, by omega⟩
  have HTO := Lib.hid (fun (w' : World) (hb : Below w.heap.size w w') => to_ok v s hp hlp hla hn m p w' (by omega) (by omega) (h.below hb))
  have HPL : Hid (pathL s.par s.ag i = pathL s.par s.ag p ++ [s.ag.getD i 0]) := Lib.hid (by rw [pathL_succ hp (by omega) hi, hpp, Int.toNat_natCast])
  have HPN : Hid ((pathL s.par s.ag p).length ≤ 500) := Lib.hid (by rw [pathL_len]; have := dep_le hp p p (Nat.le_refl _) (by omega); omega)
  obtain ⟨i0, hi0, hz0, hz1, hz2⟩ := info_parts Try.info3
  obtain ⟨vC, sa, sc, aa, ac, ta, tc, vP, vA, rfl, hC, hG, hP, hA⟩ := h.var
  obtain ⟨ca, cc, rfl, -⟩ := hC
  obtain ⟨pa, pc, rfl, hP⟩ := hP
  obtain ⟨ba, bc, rfl, hA⟩ := hA
  obtain ⟨bp, op, rfl, xp⟩ := hP i (by omega)
  obtain ⟨bb, ob, rfl, xa⟩ := hA i (by omega)
  rw [hpp] at xp
  have z0 : ¬ (i : Int) ≤ 0 := by omega
  have z1 : ¬ (s.confs.length : Int) ≤ (i : Int) := by omega
  have z2 : (i : Int) < (s.par.length : Int) := by omega
  have z3 : (i : Int) < (s.ag.length : Int) := by omega
  clear h hG hP hA hpi hpp hp hlp hla hn
  generalize (buildG (s.confs.length : Int) s.ed).S.length = nS at *
  generalize (buildG (s.confs.length : Int) s.ed).A.length = nA at *
  generalize (buildG (s.confs.length : Int) s.ed).T.length = nT at *
  generalize pathL s.par s.ag i = PI at *
  generalize pathL s.par s.ag p = PP at *
  generalize s.ag.getD i 0 = ai at *
  generalize s.par.length = nP at *
  generalize s.ag.length = nB at *
  generalize s.confs.length = n at *
  have S0 := Lib.hid (BxS.start w #[.slice ca n cc, .slice sa nS sc, .slice aa nA ac, .slice ta nT tc, .slice (some ⟨bp, op, none⟩) nP pc, .slice (some ⟨bb, ob, none⟩) nB bc] 32)
  have xp := bkeep S0.out.below xp
  have xa := bkeep S0.out.below xa
  have c0 := cell_of_block S0.out.blk 0 (.slice ca n cc) rfl
  have c1 := cell_of_block S0.out.blk 1 (.slice sa nS sc) rfl
  have c2 := cell_of_block S0.out.blk 2 (.slice aa nA ac) rfl
  have c3 := cell_of_block S0.out.blk 3 (.slice ta nT tc) rfl
  have c4 := cell_of_block S0.out.blk 4 (.slice (some ⟨bp, op, none⟩) nP pc) rfl
  have c5 := cell_of_block S0.out.blk 5 (.slice (some ⟨bb, ob, none⟩) nB bc) rfl
  generalize hw2 : w.alloc (.cells #[.slice ca n cc, .slice sa nS sc, .slice aa nA ac, .slice ta nT tc, .slice (some ⟨bp, op, none⟩) nP pc, .slice (some ⟨bb, ob, none⟩) nB bc] 32) = w2 at *
  go_enter Try.func21, Try.ntmps21
  go_wp2_with fail
  clear hw2
  refine region_rel_tail 7 (fun _ => undef)
   (fun f => { tmps := #[.agg #[.slice ca n cc, .slice sa nS sc, .slice aa nA ac, .slice ta nT tc, .slice (some ⟨bp, op, none⟩) nP pc, .slice (some ⟨bb, ob, none⟩) nB bc], .int .i64 (i : Nat), .pointer (some ⟨w.heap.size, 0, none⟩), undef, .slice none 0 0, undef, .int .i64 (i : Nat), .bool false, .bool false, .int .i64 (i : Nat), .pointer (some ⟨w.heap.size, 0, none⟩), .slice ca n cc, .int .i64 (n : Nat), .bool false, .bool false, f 15, f 16, f 17, f 18, f 19, f 20, f 21, undef, undef, undef, undef, undef, undef, undef, undef], defers := [] }) (fun j => j + 15)
   (toRel w2.heap.size 6 PP [(.agg #[.slice ca n cc, .slice sa nS sc, .slice aa nA ac, .slice ta nT tc, .slice (some ⟨bp, op, none⟩) nP pc, .slice (some ⟨bb, ob, none⟩) nB bc]), (.pointer (some ⟨w.heap.size, 4, none⟩)), (.slice (some ⟨bp, op, none⟩) nP pc), (.int .i64 (i : Nat)), (.pointer (some ⟨bp, op + i, none⟩)), (.int .i64 (p : Nat))])
   rfl (by kernel_rfl) (by kernel_rfl) (by kernel_rfl) (by decide) (by kernel_rfl) (fun i u w w' hb h => toRel_mono hb h) (by kernel_rfl) (by kernel_rfl) ?_ ?_ ?_
  ·intro j hj f v
   rcases j with _ | _ | _ | _ | _ | _ | _ | j
   all_goals first | rfl | omega | (simp at hj; omega)
  ·refine ⟨?_, ?_, ?_, ?_, ?_, ?_, ?_, trivial⟩
   ·intro f w' hb hd K hK
    have e0 := bkeep hb c0
    have e1 := bkeep hb c1
    have e2 := bkeep hb c2
    have e3 := bkeep hb c3
    have e4 := bkeep hb c4
    have e5 := bkeep hb c5
    dsimp only
    go_simp
    exact hK (.agg #[.slice ca n cc, .slice sa nS sc, .slice aa nA ac, .slice ta nT tc, .slice (some ⟨bp, op, none⟩) nP pc, .slice (some ⟨bb, ob, none⟩) nB bc]) w' (Below.refl _ _) rfl
   ·intro f w' hb hd K hK
    dsimp only
    go_simp
    exact hK (.pointer (some ⟨w.heap.size, 4, none⟩)) w' (Below.refl _ _) rfl
   ·intro f w' hb hd K hK
    have h1 : f 16 = (.pointer (some ⟨w.heap.size, 4, none⟩)) := hd 1 (by kernel_rfl)
    have e0 := bkeep hb c4
    dsimp only
    go_simp
    have q := hK (.slice (some ⟨bp, op, none⟩) nP pc) w' (Below.refl _ _) rfl
    simp only [h1] at q
    exact q
   ·intro f w' hb hd K hK
    dsimp only
    go_simp
    exact hK (.int .i64 (i : Nat)) w' (Below.refl _ _) rfl
   ·intro f w' hb hd K hK
    have h2 : f 17 = (.slice (some ⟨bp, op, none⟩) nP pc) := hd 2 (by kernel_rfl)
    have h3 : f 18 = (.int .i64 (i : Nat)) := hd 3 (by kernel_rfl)
    dsimp only
    go_simp
    have q := hK (.pointer (some ⟨bp, op + i, none⟩)) w' (Below.refl _ _) rfl
    simp only [h2, h3] at q
    exact q
   ·intro f w' hb hd K hK
    have h4 : f 19 = (.pointer (some ⟨bp, op + i, none⟩)) := hd 4 (by kernel_rfl)
    have e0 := bkeep hb xp
    dsimp only
    go_simp
    have q := hK (.int .i64 (p : Nat)) w' (Below.refl _ _) rfl
    simp only [h4] at q
    exact q
   ·intro f w' hb hd K hK
    have h0 : f 15 = (.agg #[.slice ca n cc, .slice sa nS sc, .slice aa nA ac, .slice ta nT tc, .slice (some ⟨bp, op, none⟩) nP pc, .slice (some ⟨bb, ob, none⟩) nB bc]) := hd 0 (by kernel_rfl)
    have h5 : f 20 = (.int .i64 (p : Nat)) := hd 5 (by kernel_rfl)
    have hsz : w2.heap.size ≤ w'.heap.size := hb.size
    have HO2 := Lib.hid (HTO.out w' (S0.out.below.trans (((Below.refl _ w2).drew.trans hb).mono S0.out.below.size)))
    dsimp only
    go_simp
    go_wp2_with (go_at_call 21; refine HO2.out.mono ?_; rintro e w3 ⟨rv, rfl, hO, hb3⟩)
    have q := hK _ w3 hb3 (ownlow hO hsz : OwnI w2.heap.size w3 rv PP)
    simp only [h0, h5] at q
    exact q
  intro f w3 hb3 hr
  have hO : OwnI w2.heap.size w3 (f 21) PP := hr 6 (by decide)
  clear hr
  obtain ⟨oa, oc, h21⟩ := ownv hO
  rw [h21] at hO
  simp only [h21, List.drop_succ_cons, List.drop_zero]
  generalize f 15 = z85
  generalize f 16 = z86
  generalize f 17 = z87
  generalize f 18 = z88
  generalize f 19 = z89
  generalize f 20 = z90
  have O3 := Lib.hid hO
  have HB3 : Hid (Below w2.heap.size w2 w3) := Lib.hid hb3
  have c5 := bkeep HB3.out c5
  have xa := bkeep HB3.out xa
  have hpn := HPN.out
  clear hO hb3 HTO c0 c1 c2 c3 c4 xp
  go_wp2_with (at_builtin; refine wpList_append_lies (w3.alloc (.cells #[.int .i64 ai] 3)) rfl (.tmp 22) (.tmp 28) 22 rfl w2.heap.size 3 i0 (.int .i64 0) 1 8 Try.underlying22 hi0 hz0 hz1 hz2 rfl (by decide) (.slice oa PP.length oc) PP.length (PP.map (Value.int .i64)) rfl (World.ownsRow.alloc O3.out _) ⟨w3.heap.size, 0, none⟩ 1 1 [.int .i64 ai] rfl rfl (World.news_of_block (heap_alloc_new _ _)) (by simp [Value.oneCell']) (by omega) (by unfold maxLen; omega) (by omega) (by have := HB3.out.size; simp only [alloc_size]; omega) (w3.heap.size + 1) (by simp) ?_; intro g7 cap7 w7 hown7 hgr7 hor7 hlt7; have HB7 := Lib.hid (below_own HB3.out O3.out hgr7); have O7 : Hid (OwnI w2.heap.size w7 (.slice (some ⟨g7, 0, none⟩) (PP.length + 1) cap7) PI) := Lib.hid (by unfold OwnI; rw [HPL.out, List.length_append, List.map_append]; exact hown7); clear hown7 hgr7 hor7 hlt7)
  go_ret
  exact ⟨_, rfl, ownlow O7.out S0.out.below.size, S0.out.below.trans (HB7.out.mono S0.out.below.size)⟩
end Go.Proofs.Ytlhpjfnfemebdaa
namespace Go.Proofs.Ytlhpjfnfemebdaa
open Go.RowKit
def lenRel (k m : Nat) (vs : List Value) (j : Nat) (v : Value) (_w : World) : Prop :=
 if j = k then ∃ a c, v = .slice a m c else v = vs.getD j undef
theorem lenRel_mono {k m : Nat} {vs : List Value} {j : Nat} {v : Value} {w w' : World} (h : lenRel k m vs j v w) : lenRel k m vs j v w' := h
def ltD (dep : Nat → Nat) (n m : Nat) : Nat := (List.range n).countP (fun j => decide (dep j < m))
theorem countP_split {l : List Nat} {p q r : Nat → Bool} (h : ∀ x, p x = (q x || r x)) (hd : ∀ x, q x = true → r x = false) : l.countP p = l.countP q + l.countP r := by
 induction l with
 | nil => rfl
 | cons x l ih =>
  rw [List.countP_cons, List.countP_cons, List.countP_cons, ih, h x]
  cases hq : q x <;> cases hr : r x <;> simp
  ·omega
  ·omega
  ·have := hd x hq; rw [hr] at this; cases this
theorem ltD_succ (dep : Nat → Nat) (n m : Nat) : ltD dep n (m + 1) = ltD dep n m + cntD dep n m := by
 unfold ltD cntD
 refine countP_split (fun x => ?_) (fun x hx => ?_)
 ·rw [← Bool.decide_or]
  exact decide_eq_decide.2 (by omega)
 ·have := of_decide_eq_true hx
  exact decide_eq_false (by omega)
theorem ltD_zero (dep : Nat → Nat) (n : Nat) : ltD dep n 0 = 0 := by
 unfold ltD
 rw [List.countP_eq_zero]
 intro x _
 simp
theorem ltD_le (dep : Nat → Nat) (n m : Nat) : ltD dep n m ≤ n := by
 unfold ltD
 have := List.countP_le_length (p := fun j => decide (dep j < m)) (l := List.range n)
 simpa using this
theorem ltD_all {dep : Nat → Nat} {n m : Nat} (h : ∀ j, j < n → dep j < m) : ltD dep n m = n := by
 unfold ltD
 rw [List.countP_eq_length.2]
 ·simp
 ·intro x hx
  exact decide_eq_true (h x (List.mem_range.1 hx))
end Go.Proofs.Ytlhpjfnfemebdaa
