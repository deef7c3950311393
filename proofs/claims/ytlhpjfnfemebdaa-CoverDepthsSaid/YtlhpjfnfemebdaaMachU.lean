/-
  A unit, and whether it can be.
-/
import Derived.Test.YtlhpjfnfemebdaaMachD
namespace Go.Proofs.Ytlhpjfnfemebdaa
open Go.RowKit
structure PUn where
 mod : Int
 init : List Int
 regs : List Int
 code : List (List PIn)
def pIn0 : PIn := ⟨0, 0, 0, [], [], false, 0⟩
def InAt (w : World) (b o : Nat) (x : PIn) : Prop := ∃ ea ec fa fc, w.cell? ⟨b, o, none⟩ = some (.int .i64 x.op) ∧ w.cell? ⟨b, o + 1, none⟩ = some (.int .i64 x.reg) ∧ w.cell? ⟨b, o + 2, none⟩ = some (.int .i64 x.loc) ∧
 w.cell? ⟨b, o + 3, none⟩ = some (.slice ea x.e.length ec) ∧ w.cell? ⟨b, o + 4, none⟩ = some (.slice fa x.f.length fc) ∧ w.cell? ⟨b, o + 5, none⟩ = some (.bool x.ne) ∧ w.cell? ⟨b, o + 6, none⟩ = some (.int .i64 x.tgt) ∧
 EdgesAt w (.slice ea x.e.length ec) x.e ∧ EdgesAt w (.slice fa x.f.length fc) x.f
theorem InAt.below {w w' : World} {b o : Nat} {x : PIn} (h : InAt w b o x) (hb : Below w.heap.size w w') : InAt w' b o x :=
 let ⟨ea, ec, fa, fc, h0, h1, h2, h3, h4, h5, h6, h7, h8⟩ := h
 ⟨ea, ec, fa, fc, bkeep hb h0, bkeep hb h1, bkeep hb h2, bkeep hb h3, bkeep hb h4, bkeep hb h5, bkeep hb h6, h7.below hb, h8.below hb⟩
def RowIn (w : World) (v : Value) (r : List PIn) : Prop := ∃ a c, v = .slice a r.length c ∧ ∀ j, j < r.length → ∃ b o, a = some ⟨b, o, none⟩ ∧ InAt w b (o + j * 7) (r.getD j pIn0)
theorem RowIn.below {w w' : World} {v : Value} {r : List PIn} (h : RowIn w v r) (hb : Below w.heap.size w w') : RowIn w' v r :=
 let ⟨a, c, e, h1⟩ := h
 ⟨a, c, e, fun j hj => let ⟨b, o, e, h2⟩ := h1 j hj; ⟨b, o, e, h2.below hb⟩⟩
def CodeAt (w : World) (v : Value) (code : List (List PIn)) : Prop := ∃ a c, v = .slice a code.length c ∧ ∀ j, j < code.length → ∃ b o u, a = some ⟨b, o, none⟩ ∧ w.cell? ⟨b, o + j, none⟩ = some u ∧ RowIn w u (code.getD j [])
theorem CodeAt.below {w w' : World} {v : Value} {r : List (List PIn)} (h : CodeAt w v r) (hb : Below w.heap.size w w') : CodeAt w' v r :=
 let ⟨a, c, e, h1⟩ := h
 ⟨a, c, e, fun j hj => let ⟨b, o, u, e, h2, h3⟩ := h1 j hj; ⟨b, o, u, e, bkeep hb h2, h3.below hb⟩⟩
def UnV (w : World) (v : Value) (u : PUn) : Prop := ∃ vi vr vc, v = .agg #[.int .i64 u.mod, vi, vr, vc] ∧ IntsAt w vi u.init ∧ IntsAt w vr u.regs ∧ CodeAt w vc u.code
theorem UnV.below {w w' : World} {v : Value} {u : PUn} (h : UnV w v u) (hb : Below w.heap.size w w') : UnV w' v u :=
 let ⟨vi, vr, vc, e, h1, h2, h3⟩ := h
 ⟨vi, vr, vc, e, h1.below hb, h2.below hb, h3.below hb⟩
structure UnL (u : PUn) : Prop where
 init : u.init.length ≤ 20
 regs : u.regs.length ≤ 20
 code : u.code.length ≤ 8
 row : ∀ r ∈ u.code, r.length ≤ 200 ∧ ∀ x ∈ r, x.e.length ≤ 300 ∧ x.f.length ≤ 300
def rowU (u : PUn) (t : Nat) : Bool := decide (0 ≤ u.regs.getD t 0) && decide (u.regs.getD t 0 ≤ 6) && decide (1 ≤ (u.code.getD t []).length) && decide ((u.code.getD t []).length ≤ 1000) && doneB ((u.code.getD t []).getD ((u.code.getD t []).length - 1) pIn0) &&
 (List.range ((u.code.getD t []).length - 1)).all (fun i => oneB ((u.code.getD t []).getD i pIn0) (u.regs.getD t 0) (u.init.length : Int) ((u.code.getD t []).length : Int))
def rightU (u : PUn) : Bool := decide (2 ≤ u.mod) && decide (u.mod ≤ 16) && allR u.init u.mod && decide (u.init.length ≤ 6) && decide (1 ≤ u.regs.length) && decide (u.regs.length ≤ 4) && decide (u.code.length = u.regs.length) && (List.range u.regs.length).all (rowU u)
theorem rowU_iff {u : PUn} {t : Nat} : rowU u t = true ↔ (0 ≤ u.regs.getD t 0 ∧ u.regs.getD t 0 ≤ 6) ∧ (1 ≤ (u.code.getD t []).length ∧ (u.code.getD t []).length ≤ 1000) ∧ doneB ((u.code.getD t []).getD ((u.code.getD t []).length - 1) pIn0) = true ∧
  ∀ i, i < (u.code.getD t []).length - 1 → oneB ((u.code.getD t []).getD i pIn0) (u.regs.getD t 0) (u.init.length : Int) ((u.code.getD t []).length : Int) = true := by
 unfold rowU
 simp only [Bool.and_eq_true, decide_eq_true_iff, List.all_eq_true, List.mem_range]
 constructor
 ·rintro ⟨⟨⟨⟨⟨a, b⟩, c⟩, d⟩, e⟩, f⟩; exact ⟨⟨a, b⟩, ⟨c, d⟩, e, f⟩
 ·rintro ⟨⟨a, b⟩, ⟨c, d⟩, e, f⟩; exact ⟨⟨⟨⟨⟨a, b⟩, c⟩, d⟩, e⟩, f⟩
theorem rightU_iff {u : PUn} : rightU u = true ↔ (2 ≤ u.mod ∧ u.mod ≤ 16) ∧ allR u.init u.mod = true ∧ u.init.length ≤ 6 ∧ (1 ≤ u.regs.length ∧ u.regs.length ≤ 4) ∧ u.code.length = u.regs.length ∧ ∀ t, t < u.regs.length → rowU u t = true := by
 unfold rightU
 simp only [Bool.and_eq_true, decide_eq_true_iff, List.all_eq_true, List.mem_range]
 constructor
 ·rintro ⟨⟨⟨⟨⟨⟨⟨a, b⟩, c⟩, d⟩, e⟩, f⟩, g⟩, h⟩; exact ⟨⟨a, b⟩, c, d, ⟨e, f⟩, g, h⟩
 ·rintro ⟨⟨a, b⟩, c, d, ⟨e, f⟩, g, h⟩; exact ⟨⟨⟨⟨⟨⟨⟨a, b⟩, c⟩, d⟩, e⟩, f⟩, g⟩, h⟩
theorem rightU_not {u : PUn} (h : ¬ ((2 ≤ u.mod ∧ u.mod ≤ 16) ∧ allR u.init u.mod = true ∧ u.init.length ≤ 6 ∧ (1 ≤ u.regs.length ∧ u.regs.length ≤ 4) ∧ u.code.length = u.regs.length ∧ ∀ t, t < u.regs.length → rowU u t = true)) : rightU u = false := by
 cases hb : rightU u
 ·rfl
 ·exact absurd (rightU_iff.1 hb) h
theorem rowU_not {u : PUn} {t : Nat} (h : ¬ ((0 ≤ u.regs.getD t 0 ∧ u.regs.getD t 0 ≤ 6) ∧ (1 ≤ (u.code.getD t []).length ∧ (u.code.getD t []).length ≤ 1000) ∧ doneB ((u.code.getD t []).getD ((u.code.getD t []).length - 1) pIn0) = true ∧
  ∀ i, i < (u.code.getD t []).length - 1 → oneB ((u.code.getD t []).getD i pIn0) (u.regs.getD t 0) (u.init.length : Int) ((u.code.getD t []).length : Int) = true)) : rowU u t = false := by
 cases hb : rowU u t
 ·rfl
 ·exact absurd (rowU_iff.1 hb) h
theorem row_mem {u : PUn} {t : Nat} (ht : t < u.code.length) : u.code.getD t [] ∈ u.code := by simp [List.getD, ht]
theorem in_mem {r : List PIn} {i : Nat} (hi : i < r.length) : r.getD i pIn0 ∈ r := by simp [List.getD, hi]
set_option maxRecDepth 100000 in
set_option maxHeartbeats 64000000 in
theorem rightu_ok (v : Value) (u : PUn) (w : World) (h : UnV w v u) (hl : UnL u) : Calls Try.prog 36 #[v] w fun r w' => r = .returned (.bool (rightU u)) ∧ Below w.heap.size w w' := by
 obtain ⟨vi, vr, vc, rfl, hi, hr, hc⟩ := h
 have hl1 := hl.init
 have hl2 := hl.regs
 have hl3 := hl.code
 have HALL := Lib.hid (fun (w' : World) (hb : Below w.heap.size w w') => all6_ok vi u.init u.mod w' (hi.below hb) (by omega))
 obtain ⟨ia, ic, rfl, -⟩ := hi
 obtain ⟨ra, rc, rfl, hrc⟩ := hr
 obtain ⟨ca, cc, rfl, hcc⟩ := hc
 have HRC := Lib.hid hrc
 have HCC := Lib.hid hcc
 have S0 := Lib.hid (BxC.start w #[.int .i64 u.mod, .slice ia u.init.length ic, .slice ra u.regs.length rc, .slice ca u.code.length cc] 25)
 have HNOT := Lib.hid (rightU_not (u := u))
 have HLR := Lib.hid hl.row
 clear hrc hcc hl
 by_cases h1 : u.mod < 2
 ·have E := Lib.hid (HNOT.out (fun q => by omega))
  clear HNOT HLR
  go_enter Try.func36, Try.ntmps36
  go_wp2_with fail
  go_ret
  exact ⟨by rw [E.out]; rfl, S0.out.below⟩
 by_cases h2 : 16 < u.mod
 ·have E := Lib.hid (HNOT.out (fun q => by omega))
  clear HNOT HLR
  go_enter Try.func36, Try.ntmps36
  go_wp2_with fail
  go_ret
  exact ⟨by rw [E.out]; rfl, S0.out.below⟩
 cases qa : allR u.init u.mod
 ·have E := Lib.hid (HNOT.out (fun q => by rw [q.2.1] at qa; cases qa))
  rw [qa] at HALL
  clear HNOT HLR qa
  go_enter Try.func36, Try.ntmps36
  go_wp2_with (go_at_call 56; refine (HALL.out _ S0.out.below).mono ?_; rintro e1 w1 ⟨rfl, hb1⟩; have S1 := Lib.hid (S0.out.more hb1); clear hb1)
  go_ret
  exact ⟨by rw [E.out]; rfl, S1.out.below⟩
 rw [qa] at HALL
 have QA := Lib.hid qa
 clear qa
 by_cases h3 : (6 : Int) < (u.init.length : Int)
 ·have E := Lib.hid (HNOT.out (fun q => by omega))
  clear HNOT HLR
  go_enter Try.func36, Try.ntmps36
  go_wp2_with (go_at_call 56; refine (HALL.out _ S0.out.below).mono ?_; rintro e1 w1 ⟨rfl, hb1⟩; have S1 := Lib.hid (S0.out.more hb1); clear hb1; have c0 := cell_of_block S1.out.blk 0 _ rfl; have c1 := cell_of_block S1.out.blk 1 _ rfl; have c2 := cell_of_block S1.out.blk 2 _ rfl; have c3 := cell_of_block S1.out.blk 3 _ rfl)
  go_ret
  exact ⟨by rw [E.out]; rfl, S1.out.below⟩
 by_cases h4 : (u.regs.length : Int) < 1
 ·have E := Lib.hid (HNOT.out (fun q => by omega))
  clear HNOT HLR
  go_enter Try.func36, Try.ntmps36
  go_wp2_with (go_at_call 56; refine (HALL.out _ S0.out.below).mono ?_; rintro e1 w1 ⟨rfl, hb1⟩; have S1 := Lib.hid (S0.out.more hb1); clear hb1; have c0 := cell_of_block S1.out.blk 0 _ rfl; have c1 := cell_of_block S1.out.blk 1 _ rfl; have c2 := cell_of_block S1.out.blk 2 _ rfl; have c3 := cell_of_block S1.out.blk 3 _ rfl)
  go_ret
  exact ⟨by rw [E.out]; rfl, S1.out.below⟩
 by_cases h5 : (4 : Int) < (u.regs.length : Int)
 ·have E := Lib.hid (HNOT.out (fun q => by omega))
  clear HNOT HLR
  go_enter Try.func36, Try.ntmps36
  go_wp2_with (go_at_call 56; refine (HALL.out _ S0.out.below).mono ?_; rintro e1 w1 ⟨rfl, hb1⟩; have S1 := Lib.hid (S0.out.more hb1); clear hb1; have c0 := cell_of_block S1.out.blk 0 _ rfl; have c1 := cell_of_block S1.out.blk 1 _ rfl; have c2 := cell_of_block S1.out.blk 2 _ rfl; have c3 := cell_of_block S1.out.blk 3 _ rfl)
  go_ret
  exact ⟨by rw [E.out]; rfl, S1.out.below⟩
 by_cases h6 : u.code.length = u.regs.length
 rotate_left
 ·have E := Lib.hid (HNOT.out (fun q => h6 q.2.2.2.2.1))
  have n1 : ((u.code.length : Int) != (u.regs.length : Int)) = true := by simp; omega
  clear HNOT HLR h6
  go_enter Try.func36, Try.ntmps36
  go_wp2_with (go_at_call 56; refine (HALL.out _ S0.out.below).mono ?_; rintro e1 w1 ⟨rfl, hb1⟩; have S1 := Lib.hid (S0.out.more hb1); clear hb1; have c0 := cell_of_block S1.out.blk 0 _ rfl; have c1 := cell_of_block S1.out.blk 1 _ rfl; have c2 := cell_of_block S1.out.blk 2 _ rfl; have c3 := cell_of_block S1.out.blk 3 _ rfl)
  go_ret
  exact ⟨by rw [E.out]; rfl, S1.out.below⟩
 have HYES : Hid ((∀ t, t < u.regs.length → rowU u t = true) → rightU u = true) := Lib.hid (fun q => rightU_iff.2 ⟨by omega, QA.out, by omega, by omega, h6, q⟩)
 have HBAD : Hid (∀ t, t < u.regs.length → rowU u t = false → rightU u = false) := Lib.hid (fun t ht hx => HNOT.out (fun q => by rw [q.2.2.2.2.2 t ht] at hx; cases hx))
 have n1 : ((u.code.length : Int) != (u.regs.length : Int)) = false := by rw [h6]; simp
 have h6i : (u.code.length : Int) = (u.regs.length : Int) := by omega
 have HRN := Lib.hid (fun t => rowU_not (u := u) (t := t))
 have HRY := Lib.hid (fun t => (rowU_iff (u := u) (t := t)).2)
 have H6 := Lib.hid h6
 have HLM : Hid (∀ t, t < u.code.length → (u.code.getD t []).length ≤ 200 ∧ ∀ i, i < (u.code.getD t []).length → ((u.code.getD t []).getD i pIn0).e.length ≤ 300 ∧ ((u.code.getD t []).getD i pIn0).f.length ≤ 300) := Lib.hid (fun t ht => ⟨(HLR.out _ (row_mem ht)).1, fun i hi => (HLR.out _ (row_mem ht)).2 _ (in_mem hi)⟩)
 clear HNOT h6 QA HLR
 generalize rightU u = RES at *
 generalize rowU u = RB at *
 go_enter Try.func36, Try.ntmps36
 go_wp2_with (go_at_call 56; refine (HALL.out _ S0.out.below).mono ?_; rintro e1 w1 ⟨rfl, hb1⟩; have S1 := Lib.hid (S0.out.more hb1); clear hb1; have c0 := cell_of_block S1.out.blk 0 _ rfl; have c1 := cell_of_block S1.out.blk 1 _ rfl; have c2 := cell_of_block S1.out.blk 2 _ rfl; have c3 := cell_of_block S1.out.blk 3 _ rfl)
 clear c0 c1 c2 c3 n1
 go_loopg [3] u.regs.length (fun fu c wr => ∃ t : Nat, t + fu = u.regs.length ∧ c = .int .i64 t ∧ Hid (∀ j, j < t → RB j = true) ∧ Hid (Below w1.heap.size w1 wr))
 case atStart => exact ⟨0, by omega, rfl, Lib.hid (fun j hj => by omega), Lib.hid (Below.refl _ _)⟩
 case round =>
  obtain ⟨t, ht, rfl, HI, HB⟩ := hrel
  have S2 := Lib.hid (S1.out.more HB.out)
  have c1 := cell_of_block S2.out.blk 1 _ rfl
  have c2 := cell_of_block S2.out.blk 2 _ rfl
  have c3 := cell_of_block S2.out.blk 3 _ rfl
  by_cases hlt : t < u.regs.length
  ·have z1 : (t : Int) < (u.regs.length : Int) := by omega
   have z2 : (t : Int) < (u.code.length : Int) := by omega
   obtain ⟨b1, o1, rfl, d1⟩ := HRC.out t hlt
   obtain ⟨b2, o2, ru, rfl, d2, hrow⟩ := HCC.out t (by have := H6.out; omega)
   obtain ⟨hll, hlx⟩ := HLM.out t (by have := H6.out; omega)
   have d1 := bkeep S2.out.below d1
   have d2 := bkeep S2.out.below d2
   have hrow := hrow.below S2.out.below
   have HN := Lib.hid (HRN.out t)
   have HY := Lib.hid (HRY.out t)
   have HBT := Lib.hid (HBAD.out t hlt)
   have HNX : Hid (RB t = true → ∀ j, j < t + 1 → RB j = true) := Lib.hid (fun h j hj => by
    by_cases e : j = t
    ·rw [e]; exact h
    ·exact HI.out j (by omega))
   clear HRN HRY HBAD HLM
   generalize u.regs.getD t 0 = g at *
   generalize u.code.getD t [] = r at *
   generalize RB t = RT at *
   obtain ⟨rra, rrc, rfl, hin⟩ := hrow
   have HIN := Lib.hid hin
   have HLX := Lib.hid hlx
   clear hin hlx
   by_cases g0 : g < 0
   ·have E := Lib.hid (HBT.out (HN.out (fun q => by omega)))
    clear HN HY HBT HNX
    go_wp2_with fail
    go_ret
    exact ⟨by rw [E.out]; rfl, S2.out.below⟩
   by_cases g6 : 6 < g
   ·have E := Lib.hid (HBT.out (HN.out (fun q => by omega)))
    clear HN HY HBT HNX
    go_wp2_with fail
    go_ret
    exact ⟨by rw [E.out]; rfl, S2.out.below⟩
   by_cases r0 : (r.length : Int) < 1
   ·have E := Lib.hid (HBT.out (HN.out (fun q => by omega)))
    clear HN HY HBT HNX
    go_wp2_with fail
    go_ret
    exact ⟨by rw [E.out]; rfl, S2.out.below⟩
   obtain ⟨m, hm⟩ : ∃ m, r.length = m + 1 := ⟨r.length - 1, by omega⟩
   have r1 : (m : Int) + 1 ≤ 1000 := by omega
   have r2 : ¬ ((m : Int) + 1 < 1) := by omega
   have r3 : (m : Int) < (m : Int) + 1 := by omega
   have hwm : IntKind.i64.wrap ((m : Int) + 1 - 1) = (m : Int) := by rw [IntWalk.i64_in _ (by omega)]; omega
   obtain ⟨b3, o3, rfl, ea, ec, fa, fc, q0, q1, q2, q3, q4, q5, q6, q7, q8⟩ := HIN.out m (by omega)
   have HDN := Lib.hid (done_ok _ (r.getD m pIn0) wr ⟨_, _, rfl, q7, q8⟩)
   rw [hm, Nat.add_sub_cancel] at HN HY
   rw [hm] at d2 HIN HLX r0
   have HMM := Lib.hid hm
   clear q7 q8 hm
   cases qd : doneB (r.getD m pIn0)
   ·rw [qd] at HDN
    have E := Lib.hid (HBT.out (HN.out (fun q => by rw [q.2.2.1] at qd; cases qd)))
    clear HN HY HBT HNX qd HIN HLX
    generalize (r.getD m pIn0) = x at *
    go_wp2_with (go_at_call 57; refine HDN.out.mono ?_; rintro e2 w2 ⟨rfl, hb2⟩; have S3 := Lib.hid (S2.out.more hb2); clear hb2)
    go_ret
    exact ⟨by rw [E.out]; rfl, S3.out.below⟩
   rw [qd] at HDN
   have HY2 : Hid ((∀ i, i < m → oneB (r.getD i pIn0) g (u.init.length : Int) ((m + 1 : Nat) : Int) = true) → RT = true) := Lib.hid (fun q => HY.out ⟨by omega, by omega, qd, q⟩)
   have HN2 : Hid (∀ i, i < m → oneB (r.getD i pIn0) g (u.init.length : Int) ((m + 1 : Nat) : Int) = false → RT = false) := Lib.hid (fun i hi hx => HN.out (fun q => by rw [q.2.2.2 i hi] at hx; cases hx))
   clear HN HY qd
   obtain ⟨X, hX⟩ : ∃ X : Nat → PIn, ∀ i, X i = r.getD i pIn0 := ⟨fun i => r.getD i pIn0, fun _ => rfl⟩
   simp only [← hX] at *
   clear hX
   obtain ⟨xm, hxm⟩ : ∃ x, X m = x := ⟨_, rfl⟩
   simp only [hxm] at HDN q0 q1 q2 q3 q4 q5 q6
   clear hxm
   go_wp2_with (go_at_call 57; refine HDN.out.mono ?_; rintro e2 w2 ⟨rfl, hb2⟩; have S3 := Lib.hid (S2.out.more hb2); have B2 := Lib.hid hb2; clear hb2)
   clear q0 q1 q2 q3 q4 q5 q6 HDN c1 c2 c3
   go_loopg [5] m (fun fu c wr3 => ∃ i : Nat, i + fu = m ∧ c = .int .i64 i ∧ Hid (∀ j, j < i → oneB (X j) g (u.init.length : Int) ((m + 1 : Nat) : Int) = true) ∧ Hid (Below w2.heap.size w2 wr3))
   case atStart => exact ⟨0, by omega, rfl, Lib.hid (fun j hj => by omega), Lib.hid (Below.refl _ _)⟩
   case round =>
    obtain ⟨i, hi, rfl, HJ, HB3⟩ := hrel
    have S4 := Lib.hid (S3.out.more HB3.out)
    by_cases hli : i < m
    ·have z3 : (i : Int) + 1 < (m : Int) + 1 := by omega
     have z4 : (i : Int) < (m : Int) := by omega
     have z5 : (i : Int) < (m : Int) + 1 := by omega
     obtain ⟨b3', o3', e3, ea, ec, fa, fc, q0, q1, q2, q3, q4, q5, q6, q7, q8⟩ := HIN.out i (by omega)
     cases e3
     obtain ⟨le, lf⟩ := HLX.out i (by omega)
     have B3 := Lib.hid (B2.out.trans (HB3.out.mono B2.out.size))
     have q0 := bkeep B3.out q0
     have q1 := bkeep B3.out q1
     have q2 := bkeep B3.out q2
     have q3 := bkeep B3.out q3
     have q4 := bkeep B3.out q4
     have q5 := bkeep B3.out q5
     have q6 := bkeep B3.out q6
     have q7 := q7.below B3.out
     have q8 := q8.below B3.out
     have d1 := bkeep B3.out d1
     have HNI := Lib.hid (HN2.out i hli)
     have HJ2 : Hid (oneB (X i) g (u.init.length : Int) ((m + 1 : Nat) : Int) = true → ∀ j, j < i + 1 → oneB (X j) g (u.init.length : Int) ((m + 1 : Nat) : Int) = true) := Lib.hid (fun h j hj => by
      by_cases e : j = i
      ·rw [e]; exact h
      ·exact HJ.out j (by omega))
     generalize X i = x at *
     have HONE := Lib.hid (fun (s : Sub wr) => one_ok _ x g (u.init.length : Int) ((m + 1 : Nat) : Int) s.1 ⟨_, _, rfl, q7.below s.2, q8.below s.2⟩ (by omega) (by omega))
     have c1 := cell_of_block S4.out.blk 1 _ rfl
     have c2 := cell_of_block S4.out.blk 2 _ rfl
     have f0 : ∀ s : Sub wr, s.1.cell? ⟨b3, o3 + i * 7, none⟩ = some (.int .i64 x.op) := fun s => s.cell q0
     have f1 : ∀ s : Sub wr, s.1.cell? ⟨b3, o3 + i * 7 + 1, none⟩ = some (.int .i64 x.reg) := fun s => s.cell q1
     have f2 : ∀ s : Sub wr, s.1.cell? ⟨b3, o3 + i * 7 + 2, none⟩ = some (.int .i64 x.loc) := fun s => s.cell q2
     have f3 : ∀ s : Sub wr, s.1.cell? ⟨b3, o3 + i * 7 + 3, none⟩ = some (.slice ea x.e.length ec) := fun s => s.cell q3
     have f4 : ∀ s : Sub wr, s.1.cell? ⟨b3, o3 + i * 7 + 4, none⟩ = some (.slice fa x.f.length fc) := fun s => s.cell q4
     have f5 : ∀ s : Sub wr, s.1.cell? ⟨b3, o3 + i * 7 + 5, none⟩ = some (.bool x.ne) := fun s => s.cell q5
     have f6 : ∀ s : Sub wr, s.1.cell? ⟨b3, o3 + i * 7 + 6, none⟩ = some (.int .i64 x.tgt) := fun s => s.cell q6
     have g1 : ∀ s : Sub wr, s.1.cell? ⟨w.heap.size, 1, none⟩ = some (.slice ia u.init.length ic) := fun s => s.cell c1
     have g2 : ∀ s : Sub wr, s.1.cell? ⟨w.heap.size, 2, none⟩ = some (.slice (some ⟨b1, o1, none⟩) u.regs.length rc) := fun s => s.cell c2
     have g3 : ∀ s : Sub wr, s.1.cell? ⟨b1, o1 + t, none⟩ = some (.int .i64 g) := fun s => s.cell d1
     clear q0 q1 q2 q3 q4 q5 q6 q7 q8
     cases qo : oneB x g (u.init.length : Int) ((m + 1 : Nat) : Int)
     ·rw [qo] at HONE
      have E := Lib.hid (HBT.out (HNI.out qo))
      clear HNI HJ2 qo
      go_wp2_with fail
      refine region_below (by kernel_rfl) (by kernel_rfl) ?_
      repeat (go_big_quiet_step ((go_at_call 58; exact Calls.sub_of (HONE.out _))))
      refine wpQuiet_nil ?_
      intro w5 hb5
      have S5 := Lib.hid (S4.out.more hb5)
      clear hb5
      go_wp2_with fail
      go_ret
      exact ⟨by rw [E.out]; rfl, S5.out.below⟩
     ·rw [qo] at HONE
      have HJ3 := Lib.hid (HJ2.out qo)
      clear HNI HJ2 qo
      go_wp2_with fail
      refine region_below (by kernel_rfl) (by kernel_rfl) ?_
      repeat (go_big_quiet_step ((go_at_call 58; exact Calls.sub_of (HONE.out _))))
      refine wpQuiet_nil ?_
      intro w5 hb5
      have HB5 := Lib.hid (HB3.out.trans (hb5.mono HB3.out.size))
      clear hb5
      go_wp2_with fail
      go_roundg (m - (i + 1))
      case measure => omega
      case rel => exact ⟨i + 1, by omega, by simp, HJ3, HB5⟩
    ·have him : i = m := by omega
     subst him
     have HRT := Lib.hid (HNX.out (HY2.out HJ.out))
     have HB6 := Lib.hid (HB.out.trans ((B2.out.trans (HB3.out.mono B2.out.size)).mono HB.out.size))
     go_wp2_with fail
     go_roundg (u.regs.length - (t + 1))
     case measure => omega
     case rel => exact ⟨t + 1, by omega, by simp, HRT, HB6⟩
  ·have htt : t = u.regs.length := by omega
   have E := Lib.hid (HYES.out (fun j hj => HI.out j (by omega)))
   subst htt
   go_wp2_with fail
   go_ret
   exact ⟨by rw [E.out]; rfl, S2.out.below⟩
end Go.Proofs.Ytlhpjfnfemebdaa
