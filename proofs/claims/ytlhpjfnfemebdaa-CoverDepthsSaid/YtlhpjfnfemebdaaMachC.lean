/-
  Postfix code: how many numbers lie there; whether it can be.
-/
import Derived.Test.YtlhpjfnfemebdaaJBase
namespace Go.Proofs.Ytlhpjfnfemebdaa
open Go.RowKit
def lieS : Int → List Ed → Int
 | n, [] => n
 | n, x :: l => if 1 ≤ x.1 ∧ x.1 ≤ 4 then lieS (n + 1) l else if x.1 = 5 ∧ 1 ≤ n then lieS n l else if 6 ≤ x.1 ∧ x.1 ≤ 14 ∧ 2 ≤ n then lieS (n - 1) l else -1
theorem drop_ops {l : List Ed} {k : Nat} (h : k < l.length) : l.drop k = l.getD k (0, 0, 0) :: l.drop (k + 1) := by
 rw [List.drop_eq_getElem_cons h, List.getD_eq_getElem?_getD, List.getElem?_eq_getElem h]; rfl
theorem lieS_leaf {n : Int} {l : List Ed} {k : Nat} (h : k < l.length) (h1 : 1 ≤ (l.getD k (0, 0, 0)).1 ∧ (l.getD k (0, 0, 0)).1 ≤ 4) : lieS n (l.drop k) = lieS (n + 1) (l.drop (k + 1)) := by
 rw [drop_ops h, lieS, if_pos h1]
theorem lieS_not {n : Int} {l : List Ed} {k : Nat} (h : k < l.length) (h1 : (l.getD k (0, 0, 0)).1 = 5 ∧ 1 ≤ n) : lieS n (l.drop k) = lieS n (l.drop (k + 1)) := by
 rw [drop_ops h, lieS, if_neg (by omega), if_pos h1]
theorem lieS_two {n : Int} {l : List Ed} {k : Nat} (h : k < l.length) (h1 : 6 ≤ (l.getD k (0, 0, 0)).1 ∧ (l.getD k (0, 0, 0)).1 ≤ 14 ∧ 2 ≤ n) : lieS n (l.drop k) = lieS (n - 1) (l.drop (k + 1)) := by
 rw [drop_ops h, lieS, if_neg (by omega), if_neg (by omega), if_pos h1]
theorem lieS_bad {n : Int} {l : List Ed} {k : Nat} (h : k < l.length) (h1 : ¬ (1 ≤ (l.getD k (0, 0, 0)).1 ∧ (l.getD k (0, 0, 0)).1 ≤ 4) ∧ ¬ ((l.getD k (0, 0, 0)).1 = 5 ∧ 1 ≤ n) ∧ ¬ (6 ≤ (l.getD k (0, 0, 0)).1 ∧ (l.getD k (0, 0, 0)).1 ≤ 14 ∧ 2 ≤ n)) : lieS n (l.drop k) = -1 := by
 rw [drop_ops h, lieS, if_neg h1.1, if_neg h1.2.1, if_neg h1.2.2]
set_option maxRecDepth 100000 in
set_option maxHeartbeats 16000000 in
theorem lies_ok (v : Value) (l : List Ed) (w : World) (h : EdgesAt w v l) (hl : l.length ≤ 1000000) :
  Calls Try.prog 88 #[v] w fun e w' => (∃ m : Int, e = .returned (.tuple #[.int .i64 (lieS 0 l), .int .i64 m])) ∧ Below w.heap.size w w' := by
 obtain ⟨a, ac, rfl, ha⟩ := h
 have HA := Lib.hid ha
 have L1 := Lib.hid (fun (n : Int) k (h : k < l.length) => lieS_leaf (n := n) h)
 have L2 := Lib.hid (fun (n : Int) k (h : k < l.length) => lieS_not (n := n) h)
 have L3 := Lib.hid (fun (n : Int) k (h : k < l.length) => lieS_two (n := n) h)
 have L4 := Lib.hid (fun (n : Int) k (h : k < l.length) => lieS_bad (n := n) h)
 have L0 : Hid (lieS 0 l = lieS 0 (l.drop 0)) := Lib.hid (by rw [List.drop_zero])
 have LE : Hid (∀ n, lieS n (l.drop l.length) = n) := Lib.hid (fun n => by rw [List.drop_length]; rfl)
 clear ha
 generalize lieS 0 l = RES at *
 obtain ⟨LS, hLS⟩ : ∃ f : Int → Nat → Int, ∀ n k, f n k = lieS n (l.drop k) := ⟨fun n k => lieS n (l.drop k), fun _ _ => rfl⟩
 simp only [← hLS] at L1 L2 L3 L4 L0 LE
 clear hLS
 go_enter Try.func88, Try.ntmps88
 go_wp2_with fail
 go_loopg [4, 5, 6] l.length (fun fu nv mv c wr => ∃ (k : Nat) (n m : Int), k + fu = l.length ∧ nv = .int .i64 n ∧ mv = .int .i64 m ∧ c = .int .i64 k ∧ Hid (RES = LS n k) ∧ 0 ≤ n ∧ n ≤ k ∧ Hid (Below w.heap.size w wr))
 case atStart => exact ⟨0, 0, 0, by omega, rfl, rfl, rfl, L0, by omega, by omega, Lib.hid (Below.refl _ _)⟩
 case round =>
  obtain ⟨k, n, m, hk, rfl, rfl, rfl, HI, hn0, hnk, HB⟩ := hrel
  by_cases hlt : k < l.length
  ·have z1 : (k : Int) < (l.length : Int) := by omega
   obtain ⟨b1, o1, rfl, d1, -, -⟩ := HA.out k hlt
   have d1 := bkeep HB.out d1
   have Q1 := Lib.hid (L1.out n k hlt)
   have Q2 := Lib.hid (L2.out n k hlt)
   have Q3 := Lib.hid (L3.out n k hlt)
   have Q4 := Lib.hid (L4.out n k hlt)
   clear L1 L2 L3 L4 L0 LE
   generalize (l.getD k (0, 0, 0)).1 = x at *
   by_cases h1 : 1 ≤ x
   ·by_cases h4 : x ≤ 4
    ·have E := Lib.hid (Q1.out ⟨h1, h4⟩)
     clear Q1 Q2 Q3 Q4
     go_wp2_with fail
     all_goals
      go_roundg (l.length - (k + 1))
      case measure => omega
      case rel => exact ⟨k + 1, n + 1, _, by omega, by simp, rfl, by simp, Lib.hid (by rw [HI.out, E.out]), by omega, by omega, HB⟩
    ·have h4' : 4 < x := by omega
     by_cases h5 : x = 5
     ·subst h5
      by_cases hn : 1 ≤ n
      ·have E := Lib.hid (Q2.out ⟨rfl, hn⟩)
       clear Q1 Q2 Q3 Q4
       go_wp2_with fail
       all_goals
        go_roundg (l.length - (k + 1))
        case measure => omega
        case rel => exact ⟨k + 1, n, _, by omega, rfl, rfl, by simp, Lib.hid (by rw [HI.out, E.out]), by omega, by omega, HB⟩
      ·have hn' : n < 1 := by omega
       have E := Lib.hid (Q4.out ⟨by omega, by omega, by omega⟩)
       clear Q1 Q2 Q3 Q4
       go_wp2_with fail
       refine bodyPost_ret (v := .tuple #[.int .i64 (-1), .int .i64 (-1)]) (by simp [results, Try.results88, go_sem]) rfl ?_
       exact ⟨⟨_, by rw [HI.out, E.out]⟩, HB.out⟩
     ·have n5 : (x == 5) = false := beq_false_of_ne h5
      have h6 : 6 ≤ x := by omega
      by_cases h14 : x ≤ 14
      ·by_cases hn : 2 ≤ n
       ·have E := Lib.hid (Q3.out ⟨h6, h14, hn⟩)
        clear Q1 Q2 Q3 Q4
        go_wp2_with fail
        all_goals
         go_roundg (l.length - (k + 1))
         case measure => omega
         case rel => exact ⟨k + 1, n - 1, _, by omega, by simp, rfl, by simp, Lib.hid (by rw [HI.out, E.out]), by omega, by omega, HB⟩
       ·have hn' : n < 2 := by omega
        have E := Lib.hid (Q4.out ⟨by omega, by omega, by omega⟩)
        clear Q1 Q2 Q3 Q4
        go_wp2_with fail
        refine bodyPost_ret (v := .tuple #[.int .i64 (-1), .int .i64 (-1)]) (by simp [results, Try.results88, go_sem]) rfl ?_
        exact ⟨⟨_, by rw [HI.out, E.out]⟩, HB.out⟩
      ·have h14' : 14 < x := by omega
       have E := Lib.hid (Q4.out ⟨by omega, by omega, by omega⟩)
       clear Q1 Q2 Q3 Q4
       go_wp2_with fail
       refine bodyPost_ret (v := .tuple #[.int .i64 (-1), .int .i64 (-1)]) (by simp [results, Try.results88, go_sem]) rfl ?_
       exact ⟨⟨_, by rw [HI.out, E.out]⟩, HB.out⟩
   ·have h1' : x < 1 := by omega
    have n5 : (x == 5) = false := beq_false_of_ne (by omega)
    have h6 : x < 6 := by omega
    have E := Lib.hid (Q4.out ⟨by omega, by omega, by omega⟩)
    clear Q1 Q2 Q3 Q4
    go_wp2_with fail
    refine bodyPost_ret (v := .tuple #[.int .i64 (-1), .int .i64 (-1)]) (by simp [results, Try.results88, go_sem]) rfl ?_
    exact ⟨⟨_, by rw [HI.out, E.out]⟩, HB.out⟩
  ·have hkk : k = l.length := by omega
   subst hkk
   have E := Lib.hid (LE.out n)
   go_wp2_with fail
   refine bodyPost_ret (v := .tuple #[.int .i64 n, .int .i64 m]) (by simp [results, Try.results88, go_sem]) rfl ?_
   exact ⟨⟨_, by rw [HI.out, E.out]⟩, HB.out⟩
def opOk (own : Int) (x : Ed) : Bool := if x.1 = 1 then inR x.2.1 10000 else if x.1 = 2 then inR x.2.1 own else decide (x.1 ≠ 3 ∧ x.1 ≠ 4)
def codeB (own : Int) (l : List Ed) : Bool := l.all (opOk own) && (lieS 0 l == 1)
theorem codeB_iff {own : Int} {l : List Ed} : codeB own l = true ↔ (∀ x ∈ l, opOk own x = true) ∧ lieS 0 l = 1 := by
 unfold codeB; rw [Bool.and_eq_true, List.all_eq_true, beq_iff_eq]
theorem codeB_bad {own : Int} {l : List Ed} {k : Nat} (hk : k < l.length) (h : opOk own (l.getD k (0, 0, 0)) = false) : codeB own l = false := by
 cases hb : codeB own l
 ·rfl
 ·have := (codeB_iff.1 hb).1 (l.getD k (0, 0, 0)) (by simp [List.getD, hk])
  rw [this] at h; cases h
theorem codeB_end {own : Int} {l : List Ed} (h : ∀ k, k < l.length → opOk own (l.getD k (0, 0, 0)) = true) : codeB own l = (lieS 0 l == 1) := by
 unfold codeB
 rw [List.all_eq_true.2 (fun x hx => by
  obtain ⟨k, hk, rfl⟩ := List.getElem_of_mem hx
  have := h k hk
  rwa [List.getD_eq_getElem?_getD, List.getElem?_eq_getElem hk] at this)]
 rfl
set_option maxRecDepth 100000 in
set_option maxHeartbeats 16000000 in
theorem code_ok (v : Value) (l : List Ed) (own : Int) (w : World) (h : EdgesAt w v l) (hl : l.length ≤ 1000000) :
  Calls Try.prog 78 #[v, .slice none 0 0, .int .i64 own, .int .i64 0] w fun e w' => e = .returned (.bool (codeB own l)) ∧ Below w.heap.size w w' := by
 have HLI := Lib.hid (fun (w' : World) (hb : Below w.heap.size w w') => lies_ok v l w' (h.below hb) hl)
 obtain ⟨a, ac, rfl, ha⟩ := h
 have HA := Lib.hid ha
 have HBAD : Hid (∀ k, k < l.length → opOk own (l.getD k (0, 0, 0)) = false → codeB own l = false) := Lib.hid (fun k hk h => codeB_bad hk h)
 have HEND : Hid ((∀ k, k < l.length → opOk own (l.getD k (0, 0, 0)) = true) → codeB own l = (lieS 0 l == 1)) := Lib.hid codeB_end
 have HO : Hid (∀ x, opOk own x = if x.1 = 1 then inR x.2.1 10000 else if x.1 = 2 then inR x.2.1 own else decide (x.1 ≠ 3 ∧ x.1 ≠ 4)) := Lib.hid (fun x => rfl)
 clear ha
 generalize codeB own l = RES at *
 generalize lieS 0 l = LS at *
 go_enter Try.func78, Try.ntmps78
 go_wp2_with fail
 go_loopg [9] l.length (fun fu c wr => ∃ k : Nat, k + fu = l.length ∧ c = .int .i64 k ∧ Hid (∀ j, j < k → opOk own (l.getD j (0, 0, 0)) = true) ∧ Hid (Below w.heap.size w wr))
 case atStart => exact ⟨0, by omega, rfl, Lib.hid (fun j hj => by omega), Lib.hid (Below.refl _ _)⟩
 case round =>
  obtain ⟨k, hk, rfl, HI, HB⟩ := hrel
  by_cases hlt : k < l.length
  ·have z1 : (k : Int) < (l.length : Int) := by omega
   obtain ⟨b1, o1, rfl, d1, d2, d3⟩ := HA.out k hlt
   have d1 := bkeep HB.out d1
   have d2 := bkeep HB.out d2
   have d3 := bkeep HB.out d3
   have HOK := Lib.hid (HO.out (l.getD k (0, 0, 0)))
   have HBK := Lib.hid (HBAD.out k hlt)
   have HNX : Hid (opOk own (l.getD k (0, 0, 0)) = true → ∀ j, j < k + 1 → opOk own (l.getD j (0, 0, 0)) = true) := Lib.hid (fun h j hj => by
    by_cases e : j = k
    ·rw [e]; exact h
    ·exact HI.out j (by omega))
   generalize opOk own (l.getD k (0, 0, 0)) = OK at HOK HBK HNX
   generalize (l.getD k (0, 0, 0)).1 = x at *
   generalize (l.getD k (0, 0, 0)).2.1 = y at *
   generalize (l.getD k (0, 0, 0)).2.2 = z at *
   by_cases h1 : x = 1
   ·subst h1
    have HB1 := Lib.hid (HB.out.trans ((balloc wr (.cells #[.int .i64 1, .int .i64 y, .int .i64 z] 83)).mono HB.out.size))
    have HIN := Lib.hid (in6_ok y 10000 (wr.alloc (.cells #[.int .i64 1, .int .i64 y, .int .i64 z] 83)))
    have EO : OK = inR y 10000 := HOK.out.trans (if_pos rfl)
    cases hx : inR y 10000
    ·rw [hx] at HIN
     have E := Lib.hid (HBK.out (EO.trans hx))
     clear hx HNX HBK HOK EO
     go_wp2_with (go_at_call 74; refine HIN.out.mono ?_; rintro e w2 ⟨rfl, hb2⟩; have HB2 := Lib.hid (HB1.out.trans (hb2.mono HB1.out.size)); clear hb2)
     go_ret
     exact ⟨by rw [E.out]; rfl, HB2.out⟩
    ·rw [hx] at HIN
     have HNX2 := Lib.hid (HNX.out (EO.trans hx))
     clear hx HNX HBK HOK EO
     go_wp2_with (go_at_call 74; refine HIN.out.mono ?_; rintro e w2 ⟨rfl, hb2⟩; have HB2 := Lib.hid (HB1.out.trans (hb2.mono HB1.out.size)); clear hb2)
     go_roundg (l.length - (k + 1))
     case measure => omega
     case rel => exact ⟨k + 1, by omega, by simp, HNX2, HB2⟩
   have n1 : (x == 1) = false := beq_false_of_ne h1
   by_cases h2 : x = 2
   ·subst h2
    have HB1 := Lib.hid (HB.out.trans ((balloc wr (.cells #[.int .i64 2, .int .i64 y, .int .i64 z] 83)).mono HB.out.size))
    have HIN := Lib.hid (in6_ok y own (wr.alloc (.cells #[.int .i64 2, .int .i64 y, .int .i64 z] 83)))
    have EO : OK = inR y own := HOK.out.trans (by rw [if_neg (by decide), if_pos rfl])
    cases hx : inR y own
    ·rw [hx] at HIN
     have E := Lib.hid (HBK.out (EO.trans hx))
     clear hx HNX HBK HOK EO
     go_wp2_with (go_at_call 74; refine HIN.out.mono ?_; rintro e w2 ⟨rfl, hb2⟩; have HB2 := Lib.hid (HB1.out.trans (hb2.mono HB1.out.size)); clear hb2)
     go_ret
     exact ⟨by rw [E.out]; rfl, HB2.out⟩
    ·rw [hx] at HIN
     have HNX2 := Lib.hid (HNX.out (EO.trans hx))
     clear hx HNX HBK HOK EO
     go_wp2_with (go_at_call 74; refine HIN.out.mono ?_; rintro e w2 ⟨rfl, hb2⟩; have HB2 := Lib.hid (HB1.out.trans (hb2.mono HB1.out.size)); clear hb2)
     go_roundg (l.length - (k + 1))
     case measure => omega
     case rel => exact ⟨k + 1, by omega, by simp, HNX2, HB2⟩
   have n2 : (x == 2) = false := beq_false_of_ne h2
   by_cases h3 : x = 3
   ·subst h3
    have HB1 := Lib.hid (HB.out.trans ((balloc wr (.cells #[.int .i64 3, .int .i64 y, .int .i64 z] 83)).mono HB.out.size))
    have HIN := Lib.hid (in6_ok y 0 (wr.alloc (.cells #[.int .i64 3, .int .i64 y, .int .i64 z] 83)))
    have EO : OK = false := HOK.out.trans (by rw [if_neg (by decide), if_neg (by decide)]; decide)
    have hx : inR y 0 = false := by cases hh : inR y 0; rfl; have := inR_iff.1 hh; omega
    rw [hx] at HIN
    have E := Lib.hid (HBK.out EO)
    clear hx HNX HBK HOK EO
    go_wp2_with (go_at_call 74; refine HIN.out.mono ?_; rintro e w2 ⟨rfl, hb2⟩; have HB2 := Lib.hid (HB1.out.trans (hb2.mono HB1.out.size)); clear hb2)
    go_ret
    exact ⟨by rw [E.out]; rfl, HB2.out⟩
   have n3 : (x == 3) = false := beq_false_of_ne h3
   by_cases h4 : x = 4
   ·subst h4
    have HB1 := Lib.hid (HB.out.trans ((balloc wr (.cells #[.int .i64 4, .int .i64 y, .int .i64 z] 83)).mono HB.out.size))
    have EO : OK = false := HOK.out.trans (by rw [if_neg (by decide), if_neg (by decide)]; decide)
    have E := Lib.hid (HBK.out EO)
    have hx : inR z 0 = false := by cases hh : inR z 0; rfl; have := inR_iff.1 hh; omega
    have HIN := Lib.hid (fun (w' : World) => (by have := in6_ok z 0 w'; rwa [hx] at this : Calls Try.prog 74 #[.int .i64 z, .int .i64 0] w' fun e w2 => e = .returned (.bool false) ∧ Below w'.heap.size w' w2))
    have c := heap_alloc_new wr (.cells #[.int .i64 4, .int .i64 y, .int .i64 z] 83)
    have c2 := cell_of_block c 2 _ rfl
    clear hx HNX HBK HOK EO c
    go_wp2_with fail
    generalize wr.alloc (.cells #[.int .i64 4, .int .i64 y, .int .i64 z] 83) = w1 at *
    have f2 : ∀ i : Sub w1, i.1.cell? ⟨wr.heap.size, 2, none⟩ = some (.int .i64 z) := fun i => i.cell c2
    refine region_below (by kernel_rfl) (by kernel_rfl) ?_
    repeat (go_big_quiet_step ((go_at_call 74; exact Calls.sub_of (HIN.out _))))
    refine wpQuiet_nil ?_
    intro w4 hb4
    have HB2 := Lib.hid (HB1.out.trans (hb4.mono HB1.out.size))
    clear hb4
    go_wp2_with fail
    go_ret
    exact ⟨by rw [E.out]; rfl, HB2.out⟩
   have n4 : (x == 4) = false := beq_false_of_ne h4
   have EO : OK = true := HOK.out.trans (by rw [if_neg h1, if_neg h2]; exact decide_eq_true ⟨h3, h4⟩)
   have HNX2 := Lib.hid (HNX.out EO)
   have HB2 := Lib.hid (HB.out.trans ((balloc wr (.cells #[.int .i64 x, .int .i64 y, .int .i64 z] 83)).mono HB.out.size))
   clear HNX HBK HOK EO
   go_wp2_with fail
   go_roundg (l.length - (k + 1))
   case measure => omega
   case rel => exact ⟨k + 1, by omega, by simp, HNX2, HB2⟩
  ·have hkk : k = l.length := by omega
   subst hkk
   have E := Lib.hid (HEND.out HI.out)
   have HLX := Lib.hid (HLI.out wr HB.out)
   clear HLI HA HBAD HEND HO
   go_wp2_with (go_at_call 88; refine HLX.out.mono ?_; rintro e w2 ⟨⟨mm, rfl⟩, hb2⟩; have HB2 := Lib.hid (HB.out.trans (hb2.mono HB.out.size)); clear hb2)
   go_ret
   exact ⟨by rw [E.out]; rfl, HB2.out⟩
end Go.Proofs.Ytlhpjfnfemebdaa
