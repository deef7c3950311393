/-
  What a kind of instructions has. An instruction, and whether it can be. (Written by gen_one.py.)
-/
import Derived.BigQuiet
import Derived.Deep.DeepCutAuto
import Derived.Deep.DeepFit
import Derived.Deep.DeepMust
import Derived.Deep.LoopGhost
import Derived.Deep.QuietTactic
import Derived.Deep.Slices
import Derived.KernelRfl
import Derived.Lib.Hide
import Derived.StillTailTactics
import Derived.Test.YtlhpjfnfemebdaaRows
import Derived.WalkKit
import Derived.WalkLawsBesides
import Derived.WalkSpells
import Derived.Test.YtlhpjfnfemebdaaMachC
namespace Go.Proofs.Ytlhpjfnfemebdaa
open Go.RowKit
def hasB (s : ByteArray) (c : Int) : Bool := s.data.toList.any (fun b => (b.toNat : Int) == c)
theorem hasB_yes {s : ByteArray} {c : Int} {k : Nat} (hk : k < s.size) (h : (s[k].toNat : Int) = c) : hasB s c = true := by
 unfold hasB
 rw [List.any_eq_true]
 exact ⟨s.data[k]'hk, by simp, by rw [beq_iff_eq]; exact h⟩
theorem hasB_no {s : ByteArray} {c : Int} (h : ∀ k (hk : k < s.size), (s[k].toNat : Int) ≠ c) : hasB s c = false := by
 cases hb : hasB s c
 ·rfl
 ·unfold hasB at hb
  rw [List.any_eq_true] at hb
  obtain ⟨b, hm, hb⟩ := hb
  obtain ⟨k, hk, rfl⟩ := List.getElem_of_mem hm
  rw [beq_iff_eq, Array.getElem_toList] at hb
  exact absurd hb (h k (by simpa using hk))
set_option maxRecDepth 100000 in
set_option maxHeartbeats 4000000 in
theorem has_ok (s : ByteArray) (c : Int) (w : World) (hs : s.size ≤ 200) : Calls Try.prog 76 #[.string s, .int .u8 c] w fun e w' => e = .returned (.bool (hasB s c)) ∧ Below w.heap.size w w' := by
 have HY : Hid (∀ k (hk : k < s.size), (s[k].toNat : Int) = c → hasB s c = true) := Lib.hid (fun k hk h => hasB_yes hk h)
 have HN : Hid ((∀ k (hk : k < s.size), (s[k].toNat : Int) ≠ c) → hasB s c = false) := Lib.hid hasB_no
 generalize hasB s c = RES at *
 go_enter Try.func76, Try.ntmps76
 go_wp2_with fail
 go_loopg [5] s.size (fun fu q wr => ∃ k : Nat, k + fu = s.size ∧ q = .int .i64 k ∧ Hid (∀ j (hj : j < s.size), j < k → (s[j].toNat : Int) ≠ c) ∧ Hid (Below w.heap.size w wr))
 case atStart => exact ⟨0, by omega, rfl, Lib.hid (fun j hj h => by omega), Lib.hid (Below.refl _ _)⟩
 case round =>
  obtain ⟨k, hk, rfl, HI, HB⟩ := hrel
  by_cases hlt : k < s.size
  ·have z1 : (k : Int) < (s.size : Int) := by omega
   by_cases hx : (s[k].toNat : Int) = c
   ·have n1 : ((s[k].toNat : Int) == c) = true := by simp [hx]
    have E := Lib.hid (HY.out k hlt hx)
    go_wp2_with fail
    go_ret
    exact ⟨by rw [E.out]; rfl, HB.out⟩
   ·have n1 : ((s[k].toNat : Int) == c) = false := beq_false_of_ne hx
    have HI2 : Hid (∀ j (hj : j < s.size), j < k + 1 → (s[j].toNat : Int) ≠ c) := Lib.hid (fun j hj h => by
     by_cases e : j = k
     ·subst e; exact hx
     ·exact HI.out j hj (by omega))
    go_wp2_with fail
    go_roundg (s.size - (k + 1))
    case measure => omega
    case rel => exact ⟨k + 1, by omega, by simp, HI2, HB⟩
  ·have hkk : k = s.size := by omega
   subst hkk
   have E := Lib.hid (HN.out (fun j hj => HI.out j hj hj))
   go_wp2_with fail
   go_ret
   exact ⟨by rw [E.out]; rfl, HB.out⟩
def partS (op : Int) : ByteArray := if op = 2 then ⟨#[114, 101]⟩ else if op = 3 then ⟨#[114, 108]⟩ else if op = 4 then ⟨#[108, 101]⟩ else if op = 5 then ⟨#[114, 108, 101, 102]⟩ else if op = 6 ∨ op = 7 then ⟨#[114, 108, 101]⟩ else if op = 8 then ⟨#[]⟩ else if op = 9 then ⟨#[108, 101, 110]⟩ else if op = 20 then ⟨#[116]⟩ else if op = 21 then ⟨#[101, 116]⟩ else ⟨#[]⟩
def isOp (op : Int) : Bool := decide (2 ≤ op ∧ op ≤ 9 ∨ op = 20 ∨ op = 21)
set_option maxRecDepth 100000 in
set_option maxHeartbeats 4000000 in
theorem parts_kind (op : Int) (w : World) : Calls Try.prog 75 #[.int .i64 op] w fun e w' => e = .returned (.tuple #[.string (partS op), .bool (isOp op)]) ∧ Below w.heap.size w w' := by
 by_cases h2 : op = 2
 ·subst h2
  go_enter Try.func75, Try.ntmps75
  go_wp2_with fail
  refine bodyPost_ret (v := .tuple #[.string ⟨#[114, 101]⟩, .bool true]) (by simp [results, Try.results75, go_sem]) rfl ?_
  exact ⟨rfl, Below.refl _ _⟩
 have n2 : (op == 2) = false := beq_false_of_ne h2
 by_cases h3 : op = 3
 ·subst h3
  go_enter Try.func75, Try.ntmps75
  go_wp2_with fail
  refine bodyPost_ret (v := .tuple #[.string ⟨#[114, 108]⟩, .bool true]) (by simp [results, Try.results75, go_sem]) rfl ?_
  exact ⟨rfl, Below.refl _ _⟩
 have n3 : (op == 3) = false := beq_false_of_ne h3
 by_cases h4 : op = 4
 ·subst h4
  go_enter Try.func75, Try.ntmps75
  go_wp2_with fail
  refine bodyPost_ret (v := .tuple #[.string ⟨#[108, 101]⟩, .bool true]) (by simp [results, Try.results75, go_sem]) rfl ?_
  exact ⟨rfl, Below.refl _ _⟩
 have n4 : (op == 4) = false := beq_false_of_ne h4
 by_cases h5 : op = 5
 ·subst h5
  go_enter Try.func75, Try.ntmps75
  go_wp2_with fail
  refine bodyPost_ret (v := .tuple #[.string ⟨#[114, 108, 101, 102]⟩, .bool true]) (by simp [results, Try.results75, go_sem]) rfl ?_
  exact ⟨rfl, Below.refl _ _⟩
 have n5 : (op == 5) = false := beq_false_of_ne h5
 by_cases h6 : op = 6
 ·subst h6
  go_enter Try.func75, Try.ntmps75
  go_wp2_with fail
  refine bodyPost_ret (v := .tuple #[.string ⟨#[114, 108, 101]⟩, .bool true]) (by simp [results, Try.results75, go_sem]) rfl ?_
  exact ⟨rfl, Below.refl _ _⟩
 have n6 : (op == 6) = false := beq_false_of_ne h6
 by_cases h7 : op = 7
 ·subst h7
  go_enter Try.func75, Try.ntmps75
  go_wp2_with fail
  refine bodyPost_ret (v := .tuple #[.string ⟨#[114, 108, 101]⟩, .bool true]) (by simp [results, Try.results75, go_sem]) rfl ?_
  exact ⟨rfl, Below.refl _ _⟩
 have n7 : (op == 7) = false := beq_false_of_ne h7
 by_cases h8 : op = 8
 ·subst h8
  go_enter Try.func75, Try.ntmps75
  go_wp2_with fail
  refine bodyPost_ret (v := .tuple #[.string ⟨#[]⟩, .bool true]) (by simp [results, Try.results75, go_sem]) rfl ?_
  exact ⟨rfl, Below.refl _ _⟩
 have n8 : (op == 8) = false := beq_false_of_ne h8
 by_cases h9 : op = 9
 ·subst h9
  go_enter Try.func75, Try.ntmps75
  go_wp2_with fail
  refine bodyPost_ret (v := .tuple #[.string ⟨#[108, 101, 110]⟩, .bool true]) (by simp [results, Try.results75, go_sem]) rfl ?_
  exact ⟨rfl, Below.refl _ _⟩
 have n9 : (op == 9) = false := beq_false_of_ne h9
 by_cases h20 : op = 20
 ·subst h20
  go_enter Try.func75, Try.ntmps75
  go_wp2_with fail
  refine bodyPost_ret (v := .tuple #[.string ⟨#[116]⟩, .bool true]) (by simp [results, Try.results75, go_sem]) rfl ?_
  exact ⟨rfl, Below.refl _ _⟩
 have n20 : (op == 20) = false := beq_false_of_ne h20
 by_cases h21 : op = 21
 ·subst h21
  go_enter Try.func75, Try.ntmps75
  go_wp2_with fail
  refine bodyPost_ret (v := .tuple #[.string ⟨#[101, 116]⟩, .bool true]) (by simp [results, Try.results75, go_sem]) rfl ?_
  exact ⟨rfl, Below.refl _ _⟩
 have n21 : (op == 21) = false := beq_false_of_ne h21
 have E : partS op = ⟨#[]⟩ := by unfold partS; rw [if_neg h2, if_neg h3, if_neg h4, if_neg h5, if_neg (by omega), if_neg h8, if_neg h9, if_neg h20, if_neg h21]
 have E2 : isOp op = false := by unfold isOp; exact decide_eq_false (by omega)
 rw [E, E2]
 clear E E2
 go_enter Try.func75, Try.ntmps75
 go_wp2_with fail
 refine bodyPost_ret (v := .tuple #[.string ⟨#[]⟩, .bool false]) (by simp [results, Try.results75, go_sem]) rfl ?_
 exact ⟨rfl, Below.refl _ _⟩
end Go.Proofs.Ytlhpjfnfemebdaa
namespace Go.Proofs.Ytlhpjfnfemebdaa
open Go.RowKit
structure BxC (w wr : World) (c : Array Value) (t : TypeId) : Prop where
 below : Below w.heap.size w wr
 blk : wr.heap[w.heap.size]? = some (.cells c t (0, 0))
theorem BxC.start (w : World) (c : Array Value) (t : TypeId) : BxC w (w.alloc (.cells c t)) c t := ⟨balloc w _, heap_alloc_new w _⟩
theorem BxC.more {w wr w' : World} {c : Array Value} {t : TypeId} (h : BxC w wr c t) (hb : Below wr.heap.size wr w') : BxC w w' c t := ⟨h.below.trans (hb.mono h.below.size), bheap hb h.blk⟩
structure PIn where
 op : Int
 reg : Int
 loc : Int
 e : List Ed
 f : List Ed
 ne : Bool
 tgt : Int
def InV (w : World) (v : Value) (x : PIn) : Prop := ∃ ve vf, v = .agg #[.int .i64 x.op, .int .i64 x.reg, .int .i64 x.loc, ve, vf, .bool x.ne, .int .i64 x.tgt] ∧ EdgesAt w ve x.e ∧ EdgesAt w vf x.f
theorem InV.below {w w' : World} {v : Value} {x : PIn} (h : InV w v x) (hb : Below w.heap.size w w') : InV w' v x := let ⟨ve, vf, e, h1, h2⟩ := h; ⟨ve, vf, e, h1.below hb, h2.below hb⟩
def hasP (op c : Int) : Bool := hasB (partS op) c
def oneB (x : PIn) (regs locs many : Int) : Bool :=
 isOp x.op && (if hasP x.op 114 = true then inR x.reg regs else x.reg == 0) && (if hasP x.op 108 = true then inR x.loc locs else x.loc == 0) && (if hasP x.op 116 = true then inR x.tgt many else x.tgt == 0) &&
  (if hasP x.op 101 = true then codeB regs x.e else x.e.length == 0) && (if hasP x.op 102 = true then codeB regs x.f else x.f.length == 0) && (hasP x.op 110 || !x.ne)
theorem cells7 {w : World} {b : Nat} {a0 a1 a2 a3 a4 a5 a6 : Value} {t : TypeId} {fr : Nat × Nat} (h : w.heap[b]? = some (.cells #[a0, a1, a2, a3, a4, a5, a6] t fr)) :
  w.cell? ⟨b, 0, none⟩ = some a0 ∧ w.cell? ⟨b, 1, none⟩ = some a1 ∧ w.cell? ⟨b, 2, none⟩ = some a2 ∧ w.cell? ⟨b, 3, none⟩ = some a3 ∧ w.cell? ⟨b, 4, none⟩ = some a4 ∧ w.cell? ⟨b, 5, none⟩ = some a5 ∧ w.cell? ⟨b, 6, none⟩ = some a6 :=
 ⟨cell_of_block h 0 _ rfl, cell_of_block h 1 _ rfl, cell_of_block h 2 _ rfl, cell_of_block h 3 _ rfl, cell_of_block h 4 _ rfl, cell_of_block h 5 _ rfl, cell_of_block h 6 _ rfl⟩
end Go.Proofs.Ytlhpjfnfemebdaa
