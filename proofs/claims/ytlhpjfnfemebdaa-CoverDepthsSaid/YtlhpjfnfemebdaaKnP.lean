/-
  What holds of a unit's space; spinnakerlaw30.known, plain.
-/
import Derived.Carry
import Derived.Deep.Grids
import Derived.Deep.Strs
import Derived.JoinedCond
import Derived.OpenShut
import Derived.ProofKit
import Derived.Test.YtlhpjfnfemebdaaAllB
import Derived.Test.YtlhpjfnfemebdaaJCovD
import Derived.Test.YtlhpjfnfemebdaaJCovS
import Derived.Test.YtlhpjfnfemebdaaJRReach
namespace Go.Proofs.Ytlhpjfnfemebdaa
open Go.RowKit
structure SpG (u : PUn) (model room : Int) (s : Sp) : Prop where
 right : rightU u = true
 pos : 0 < s.confs.length
 le : s.confs.length ≤ 500
 ok : buildOk (s.confs.length : Int) s.ed = true
 dp : Dp s.confs.length s.ed (depF s.par)
 cf : ∀ j, j < s.confs.length → CfOk u 1000 (s.confs.getD j cf0)
 ag : ∀ e ∈ s.ed, e.2.1 < (agN u model : Int)
 edl : s.ed.length ≤ 1000000
 par : ∀ j, 1 ≤ j → j < s.confs.length → 0 ≤ s.par.getD j 0 ∧ s.par.getD j 0 < (j : Int)
 lenP : s.par.length = s.confs.length
 lenA : s.ag.length = s.confs.length
 edm : s.ed.map (fun e => (e.1, e.2.1)) = rowsB u model room s s.confs.length
theorem sp_good {u : PUn} {model room budget : Int} {s : Sp} (h : spaceS u model room budget = some s) (hb : budget ≤ 500) : SpG u model room s := by
 obtain ⟨hR, -, -, h1, ha⟩ := spaceS_some h
 have hI := allS_ok hR h1 ha
 have hle := hI.le
 have hed : s.ed.map (fun e => (e.1, e.2.1)) = rowsB u model room s s.confs.length := by
  have := hI.edm
  rwa [List.take_zero, List.map_nil, List.append_nil] at this
 have hmem : ∀ e ∈ s.ed, ∃ j : Nat, e.1 = (j : Int) ∧ j < s.confs.length ∧ ∃ a : Nat, e.2.1 = (a : Int) ∧ a < agN u model := fun e he => by
  have hm : (e.1, e.2.1) ∈ s.ed.map (fun e => (e.1, e.2.1)) := List.mem_map.2 ⟨e, he, rfl⟩
  rw [hed] at hm
  obtain ⟨j, hj, h2⟩ := List.mem_flatMap.1 hm
  obtain ⟨a, ha, e2⟩ := List.mem_map.1 h2
  obtain ⟨n, hn, hna, -⟩ := movK_mem.1 ha
  have e3 := (Prod.mk.inj e2).1
  have e4 := (Prod.mk.inj e2).2
  exact ⟨j, e3.symm, List.mem_range.1 hj, n, by rw [← e4, hn], hna⟩
 refine ⟨hR, hI.pos, by omega, ?_, hI.dp, fun j hj => (hI.ok j hj).more (by omega), fun e he => ?_, ?_, fun j a b => let ⟨c, d, _⟩ := hI.parI j a b; ⟨c, d⟩, hI.lenP, hI.lenA, hed⟩
 ·unfold buildOk
  rw [Bool.and_eq_true, decide_eq_true_iff, List.all_eq_true]
  refine ⟨by omega, fun e he => ?_⟩
  obtain ⟨j, e1, hj, a, e2, -⟩ := hmem e he
  have := hI.edt e he
  unfold okE
  rw [decide_eq_true_iff]
  omega
 ·obtain ⟨j, -, -, a, e2, h2⟩ := hmem e he
  omega
 ·have h2 := congrArg List.length hed
  rw [List.length_map] at h2
  have h3 := rowsB_len (model := model) (room := room) hR hI.row
  omega
theorem SpG.ag100 {u : PUn} {model room : Int} {s : Sp} (h : SpG u model room s) : ∀ e ∈ s.ed, e.2.1 < 100 := fun e he => by
 have := h.ag e he
 have := agN_le h.right model
 omega
def u1 : PUn := ⟨4, [0], [0], [[⟨4, 0, 0, [(1, 1, 0)], [], false, 0⟩, ⟨22, 0, 0, [], [], false, 0⟩]]⟩
def u2 : PUn := ⟨2, [], [0], [[⟨20, 0, 0, [], [], false, 0⟩, ⟨22, 0, 0, [], [], false, 0⟩]]⟩
def sp1 : Sp := ⟨[⟨[0], [[]], [0], [[]]⟩, ⟨[1], [[]], [0], [[(0, 1)]]⟩, ⟨[1], [[]], [1], [[]]⟩], [-1, 0, 1], [-1, 0, 1], [(0, 0, 1), (1, 1, 2)]⟩
def sp2 : Sp := ⟨[⟨[0], [[]], [], [[]]⟩], [-1], [-1], [(0, 0, 0)]⟩
theorem u1_light : lightU u1 = true := by kernel_rfl
theorem u2_light : lightU u2 = true := by kernel_rfl
theorem sp1_all : allS u1 2 1 9 = some sp1 := by kernel_rfl
theorem sp2_all : allS u2 1 1 9 = some sp2 := by kernel_rfl
theorem u1_right : rightU u1 = true := by kernel_rfl
theorem u2_right : rightU u2 = true := by kernel_rfl
theorem sp1_some : spaceS u1 2 1 9 = some sp1 := by
 unfold spaceS
 rw [if_pos ⟨u1_right, by decide, by decide, by decide⟩]; exact sp1_all
theorem sp2_some : spaceS u2 1 1 9 = some sp2 := by
 unfold spaceS
 rw [if_pos ⟨u2_right, by decide, by decide, by decide⟩]; exact sp2_all
theorem sp1_good : SpG u1 2 1 sp1 := sp_good sp1_some (by omega)
theorem sp2_good : SpG u2 1 1 sp2 := sp_good sp2_some (by omega)
theorem kDone : doneL (allL (buildG (sp1.confs.length : Int) sp1.ed)) sp1.confs u1 = [[true, false]] := by kernel_rfl
theorem kDep : depL sp1.confs.length (depF sp1.par) = [0, 1, 2] := by kernel_rfl
theorem kWid : widL sp1.confs.length (depF sp1.par) = [1, 1, 1] := by kernel_rfl
theorem kAct : actI (allL (buildG (sp1.confs.length : Int) sp1.ed)) 2 = [1, 1] := by kernel_rfl
theorem kAll1 : allL (buildG (sp1.confs.length : Int) sp1.ed) = [(0, 0, 1), (1, 1, 2)] := by kernel_rfl
theorem kAll2 : allL (buildG (sp2.confs.length : Int) sp2.ed) = [(0, 0, 0)] := by kernel_rfl
theorem pth_up {g : Gr} (h : ∀ e ∈ allL g, e.1 < e.2.2) {i k : Nat} (hp : Pth (Eg g) i k) : i ≤ k := by
 induction hp with
 | refl => exact Nat.le_refl _
 | step _ he ih =>
  obtain ⟨e, he, h1, h2⟩ := he
  have := h e he
  omega
theorem kSpin1 : spinL (buildG (sp1.confs.length : Int) sp1.ed) sp1.confs.length = [] := by
 classical
 unfold spinL
 rw [List.filter_eq_nil_iff.2]
 ·rfl
 ·intro i _ hi
  obtain ⟨x, ⟨e, he, h1, h2⟩, hp⟩ := of_decide_eq_true hi
  have hup : ∀ e ∈ allL (buildG (sp1.confs.length : Int) sp1.ed), e.1 < e.2.2 := by rw [kAll1]; decide
  have := hup e he
  have := pth_up hup hp
  omega
theorem kSpin2 : spinL (buildG (sp2.confs.length : Int) sp2.ed) sp2.confs.length = [0] := by
 classical
 unfold spinL
 have h0 : spinP (buildG (sp2.confs.length : Int) sp2.ed) 0 := ⟨0, ⟨(0, 0, 0), by rw [kAll2]; simp, rfl, rfl⟩, .refl 0⟩
 show ((List.range 1).filter (fun i => decide (spinP (buildG (sp2.confs.length : Int) sp2.ed) i))).map (fun k : Nat => (k : Int)) = [0]
 rw [show List.range 1 = [0] from rfl, List.filter_cons, if_pos (by exact decide_eq_true h0)]
 rfl
end Go.Proofs.Ytlhpjfnfemebdaa
