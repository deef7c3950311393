/-
  spinnakerlaw17.known.
-/
import Derived.Test.YtnlaonppgebpoaaSccLaw
import Derived.Test.YtnlaonppgebpoaaCyclic
import Derived.Test.YtnlaonppgebpoaaKnown14
namespace Go.Proofs.Ytnlaonppgebpoaa
open Go.RowKit

def sl : List Ed := [(0, 0, 1), (1, 0, 0), (1, 0, 2), (3, 0, 3)]
def sG : Gr := csr 4 sl
theorem sB : buildG 4 sl = sG := rfl
theorem sE : buildE 4 sl = 0 := by decide
theorem sN : nodesN sG = 4 := by decide
theorem sAll : allL sG = sl := by decide
theorem pth_in {E : Nat → Nat → Prop} {X : Nat → Prop} (hX : ∀ a b, X a → E a b → X b) {a b : Nat} (h : Pth E a b) (ha : X a) : X b := by
  induction h with
  | refl => exact ha
  | step _ he ih => exact hX _ _ (ih) he
theorem sEg (a b : Nat) : Eg sG a b ↔ (a = 0 ∧ b = 1) ∨ (a = 1 ∧ b = 0) ∨ (a = 1 ∧ b = 2) ∨ (a = 3 ∧ b = 3) := by
  unfold Eg
  rw [sAll]
  simp only [sl, List.mem_cons, List.not_mem_nil, or_false]
  constructor
  · rintro ⟨e, (rfl | rfl | rfl | rfl), h1, h2⟩ <;> simp at h1 h2 <;> omega
  · rintro (⟨rfl, rfl⟩ | ⟨rfl, rfl⟩ | ⟨rfl, rfl⟩ | ⟨rfl, rfl⟩)
    · exact ⟨_, .inl rfl, rfl, rfl⟩
    · exact ⟨_, .inr (.inl rfl), rfl, rfl⟩
    · exact ⟨_, .inr (.inr (.inl rfl)), rfl, rfl⟩
    · exact ⟨_, .inr (.inr (.inr rfl)), rfl, rfl⟩
def sT (i k : Nat) : Bool := i == 1 && k == 0
theorem sParts : partsI sG = [0, 0, 1, 2] := by
  have h : (cnS sT (nodesN sG)).1 = partsL sG := by
    refine partsL_congr fun i k hi hk => ?_
    rw [sN] at hi
    have h2 : ∀ k, Pth (Eg sG) 2 k → k = 2 := fun k h => pth_in (X := fun x => x = 2) (fun a b ha he => by rw [sEg] at he; omega) h rfl
    have h3 : ∀ k, Pth (Eg sG) 3 k → k = 3 := fun k h => pth_in (X := fun x => x = 3) (fun a b ha he => by rw [sEg] at he; omega) h rfl
    have hc : (i = 1 ∧ k = 0) ∨ i = 2 ∨ i = 3 := by omega
    rcases hc with ⟨rfl, rfl⟩ | rfl | rfl
    · refine ⟨fun _ => ⟨.one ((sEg _ _).2 (by omega)), .one ((sEg _ _).2 (by omega))⟩, fun _ => rfl⟩
    · refine ⟨fun h => by simp [sT] at h, fun h => ?_⟩
      have := h2 k h.1; omega
    · refine ⟨fun h => by simp [sT] at h, fun h => ?_⟩
      have := h3 k h.1; omega
  unfold partsI
  rw [← h, sN]
  decide
theorem sGroups : groupsI sG = [[0, 1], [2], [3]] := by
  unfold groupsI
  rw [sParts]
  decide
theorem sKeep : allL (keepG sG [true, false, true]) = [] ∧ nodesN (keepG sG [true, false, true]) = 4 := by decide
theorem sParts2 : partsI (keepG sG [true, false, true]) = [0, 1, 2, 3] := by
  have h : (cnS (fun _ _ => false) (nodesN (keepG sG [true, false, true]))).1 = partsL (keepG sG [true, false, true]) := by
    refine partsL_congr fun i k _ hk => ?_
    refine ⟨fun h => by simp at h, fun h => ?_⟩
    have := pth_in (E := Eg (keepG sG [true, false, true])) (X := fun x => x = i) (fun a b _ he => by
      obtain ⟨e, he, -⟩ := he
      rw [sKeep.1] at he; cases he) h.1 rfl
    omega
  unfold partsI
  rw [← h, sKeep.2]
  decide
theorem sWithin : withinI sG [true, false, true] = [[0], [2]] := by
  unfold withinI
  rw [sParts2]
  decide
theorem sCyc1 : cycB sG [0, 1] = true := by
  unfold cycB
  exact decide_eq_true ⟨(0, 0, 1), by rw [sAll]; decide, by decide, by decide⟩
theorem sCyc2 : cycB sG [2] = false := by
  unfold cycB
  refine decide_eq_false ?_
  rintro ⟨e, he, h1, h2⟩
  rw [sAll] at he
  simp only [sl, List.mem_cons, List.not_mem_nil, or_false] at he
  rcases he with rfl | rfl | rfl | rfl <;> simp at h1 h2
theorem sCyc3 : cycB sG [3] = true := by
  unfold cycB
  exact decide_eq_true ⟨(3, 0, 3), by rw [sAll]; decide, by decide, by decide⟩
theorem sRows3 (w : World) : RowsAt ((((w.alloc (.cells #[.int .i64 0, .int .i64 1] 3)).alloc (.cells #[.int .i64 2] 3)).alloc (.cells #[.int .i64 3] 3)).alloc (.cells #[.slice (some ⟨w.heap.size, 0, none⟩) 2 2, .slice (some ⟨w.heap.size + 1, 0, none⟩) 1 1, .slice (some ⟨w.heap.size + 1 + 1, 0, none⟩) 1 1] 24))
    (.slice (some ⟨w.heap.size + 1 + 1 + 1, 0, none⟩) 3 3) [[0, 1], [2], [3]] := by
  obtain ⟨h1, h2, h3, -⟩ := three_heap w (.cells #[.int .i64 0, .int .i64 1] 3) (.cells #[.int .i64 2] 3) (.cells #[.int .i64 3] 3)
  have h4 := heap_alloc_at (((w.alloc (.cells #[.int .i64 0, .int .i64 1] 3)).alloc (.cells #[.int .i64 2] 3)).alloc (.cells #[.int .i64 3] 3)) (.cells #[.slice (some ⟨w.heap.size, 0, none⟩) 2 2, .slice (some ⟨w.heap.size + 1, 0, none⟩) 1 1, .slice (some ⟨w.heap.size + 1 + 1, 0, none⟩) 1 1] 24) (w.heap.size + 1 + 1 + 1) (by simp)
  refine ⟨_, 3, rfl, fun j hj => ?_⟩
  have hj' : j = 0 ∨ j = 1 ∨ j = 2 := by simp at hj; omega
  rcases hj' with rfl | rfl | rfl
  · exact ⟨_, _, _, rfl, cell_of_block h4 0 _ rfl, intsAt_block (xs := [0, 1]) (bheap (balloc _ _) h1) rfl 2⟩
  · exact ⟨_, _, _, rfl, cell_of_block h4 1 _ rfl, intsAt_block (xs := [2]) (bheap (balloc _ _) h2) rfl 1⟩
  · exact ⟨_, _, _, rfl, cell_of_block h4 2 _ rfl, intsAt_block (xs := [3]) (bheap (balloc _ _) h3) rfl 1⟩
theorem sRows2 (w : World) : RowsAt (((w.alloc (.cells #[.int .i64 0] 3)).alloc (.cells #[.int .i64 2] 3)).alloc (.cells #[.slice (some ⟨w.heap.size, 0, none⟩) 1 1, .slice (some ⟨w.heap.size + 1, 0, none⟩) 1 1] 24))
    (.slice (some ⟨w.heap.size + 1 + 1, 0, none⟩) 2 2) [[0], [2]] := by
  obtain ⟨h1, h2, h3, -⟩ := three_heap w (.cells #[.int .i64 0] 3) (.cells #[.int .i64 2] 3) (.cells #[.slice (some ⟨w.heap.size, 0, none⟩) 1 1, .slice (some ⟨w.heap.size + 1, 0, none⟩) 1 1] 24)
  refine ⟨_, 2, rfl, fun j hj => ?_⟩
  have hj' : j = 0 ∨ j = 1 := by simp at hj; omega
  rcases hj' with rfl | rfl
  · exact ⟨_, _, _, rfl, cell_of_block h3 0 _ rfl, intsAt_block (xs := [0]) h1 rfl 1⟩
  · exact ⟨_, _, _, rfl, cell_of_block h3 1 _ rfl, intsAt_block (xs := [2]) h2 rfl 1⟩
set_option maxRecDepth 100000 in
set_option maxHeartbeats 16000000 in
theorem known17 (w : World) : Calls Try.prog 41 #[] w fun e w' => e = .returned (.bool true) ∧ Below w.heap.size w w' := by
  have E1 := Lib.hid (edgesAt_block (b := w.heap.size) (l := sl) (heap_alloc_new w _) rfl 4)
  have hB1 := Lib.hid (rbuild_any 4 _ sl _ E1.out (by decide))
  rw [sB, sE] at hB1
  have HN := Lib.hid sN
  have HN1 : Hid (nodesN sG ≤ 100000) := Lib.hid (by rw [sN]; omega)
  have HP := Lib.hid sParts
  have HGR := Lib.hid sGroups
  have HWI := Lib.hid sWithin
  have HC1 := Lib.hid sCyc1
  have HC2 := Lib.hid sCyc2
  have HC3 := Lib.hid sCyc3
  have HN0 := Lib.hid (show nodesN (⟨[], [], []⟩ : Gr) = 0 from by decide)
  clear E1
  generalize sG = G at *
  go_enter Try.func41, Try.ntmps41
  go_wp2_with (first
    | (go_at_call 22; refine hB1.out.mono ?_; rintro e w1 ⟨v1, rfl, hG, hb⟩; obtain ⟨s1, a1, t1, p1, q1, r1, rfl, -⟩ := hG.var; have S1 := Lib.hid (KnSt.intro ((balloc w _).trans (hb.mono (by simp))) hG); have c0 := cell_of_block S1.out.l1 0 _ rfl; have c1 := cell_of_block S1.out.l1 1 _ rfl; have c2 := cell_of_block S1.out.l1 2 _ rfl; clear hb hG)
    | (go_at_call_of 43 s1; refine (parts_ok _ G _ S1.out.g1 HN1.out).mono ?_; rintro e w2 ⟨B2, rfl, hB, hb⟩; have S2 := Lib.hid (S1.out.more hb); rw [HP.out] at hB; rw [HN.out]; have I2 := Lib.hid (intsAt_block (xs := [0, 0, 1, 2]) hB rfl 4); clear hB; clear c0 c1 c2; have c0 := cell_of_block S2.out.l1 0 _ rfl; have c1 := cell_of_block S2.out.l1 1 _ rfl; have c2 := cell_of_block S2.out.l1 2 _ rfl; clear hb)
    | (go_at_call 42; refine (ints_same _ _ [0, 0, 1, 2] _ (I2.out.below (balloc _ _)) (intsAt_block (xs := [0, 0, 1, 2]) (heap_alloc_new w2 _) rfl 4) (by decide)).mono ?_; rintro e w3 ⟨rfl, hb⟩; have S3 := Lib.hid ((S2.out.more (balloc _ _)).more hb); clear c0 c1 c2; have c0 := cell_of_block S3.out.l1 0 _ rfl; have c1 := cell_of_block S3.out.l1 1 _ rfl; have c2 := cell_of_block S3.out.l1 2 _ rfl; clear hb)
    | (go_at_call_of 46 s1; refine (groupsF_ok _ G _ S3.out.g1 HN1.out).mono ?_; rintro e w4 ⟨rv, rfl, hR, hb⟩; have S4 := Lib.hid (S3.out.more hb); rw [HGR.out] at hR; obtain ⟨ra, rc, rfl, -⟩ := id hR; have R4 := Lib.hid hR; clear hR; clear c0 c1 c2; have c0 := cell_of_block S4.out.l1 0 _ rfl; have c1 := cell_of_block S4.out.l1 1 _ rfl; have c2 := cell_of_block S4.out.l1 2 _ rfl; clear hb)
    | (go_at_call_of 45 ra; refine (rows_same _ _ [[0, 1], [2], [3]] _ ((((R4.out.below (balloc _ _)).below (balloc _ _)).below (balloc _ _)).below (balloc _ _)) (sRows3 w4) (by decide) (by decide)).mono ?_; rintro e w5 ⟨rfl, hb⟩; have S5 := Lib.hid (((((S4.out.more (balloc _ _)).more (balloc _ _)).more (balloc _ _)).more (balloc _ _)).more hb); clear c0 c1 c2; have c0 := cell_of_block S5.out.l1 0 _ rfl; have c1 := cell_of_block S5.out.l1 1 _ rfl; have c2 := cell_of_block S5.out.l1 2 _ rfl; clear hb)
    | (go_at_call_of 48 s1; refine (withinF_ok _ _ G [true, false, true] _ (S5.out.more (balloc _ _)).g1 (boolsAt_block (xs := [true, false, true]) (heap_alloc_new w5 _) rfl 3) (by decide)).mono ?_; rintro e w6 ⟨rv, rfl, hR, hb⟩; have S6 := Lib.hid ((S5.out.more (balloc _ _)).more hb); rw [HWI.out] at hR; obtain ⟨ra2, rc2, rfl, -⟩ := id hR; have R6 := Lib.hid hR; clear hR; clear c0 c1 c2; have c0 := cell_of_block S6.out.l1 0 _ rfl; have c1 := cell_of_block S6.out.l1 1 _ rfl; have c2 := cell_of_block S6.out.l1 2 _ rfl; clear hb)
    | (go_at_call_of 45 ra2; refine (rows_same _ _ [[0], [2]] _ (((R6.out.below (balloc _ _)).below (balloc _ _)).below (balloc _ _)) (sRows2 w6) (by decide) (by decide)).mono ?_; rintro e w7 ⟨rfl, hb⟩; have S7 := Lib.hid ((((S6.out.more (balloc _ _)).more (balloc _ _)).more (balloc _ _)).more hb); clear c0 c1 c2; have c0 := cell_of_block S7.out.l1 0 _ rfl; have c1 := cell_of_block S7.out.l1 1 _ rfl; have c2 := cell_of_block S7.out.l1 2 _ rfl; clear hb)
    | (go_at_call_of 50 w7.heap.size; refine (cyc_ok _ _ G [0, 1] _ (S7.out.more (balloc _ _)).g1 (intsAt_block (xs := [0, 1]) (heap_alloc_new w7 _) rfl 2) (by decide +kernel) (by decide)).mono ?_; rintro e w8 ⟨rfl, hb⟩; have S8 := Lib.hid ((S7.out.more (balloc _ _)).more hb); rw [HC1.out]; clear c0 c1 c2; have c0 := cell_of_block S8.out.l1 0 _ rfl; have c1 := cell_of_block S8.out.l1 1 _ rfl; have c2 := cell_of_block S8.out.l1 2 _ rfl; clear hb)
    | (go_at_call_of 50 w8.heap.size; refine (cyc_ok _ _ G [2] _ (S8.out.more (balloc _ _)).g1 (intsAt_block (xs := [2]) (heap_alloc_new w8 _) rfl 1) (by decide +kernel) (by decide)).mono ?_; rintro e w9 ⟨rfl, hb⟩; have S9 := Lib.hid ((S8.out.more (balloc _ _)).more hb); rw [HC2.out]; clear c0 c1 c2; have c0 := cell_of_block S9.out.l1 0 _ rfl; have c1 := cell_of_block S9.out.l1 1 _ rfl; have c2 := cell_of_block S9.out.l1 2 _ rfl; clear hb)
    | (go_at_call_of 50 w9.heap.size; refine (cyc_ok _ _ G [3] _ (S9.out.more (balloc _ _)).g1 (intsAt_block (xs := [3]) (heap_alloc_new w9 _) rfl 1) (by decide +kernel) (by decide)).mono ?_; rintro e w10 ⟨rfl, hb⟩; have S10 := Lib.hid ((S9.out.more (balloc _ _)).more hb); rw [HC3.out]; clear c0 c1 c2; have c0 := cell_of_block S10.out.l1 0 _ rfl; have c1 := cell_of_block S10.out.l1 1 _ rfl; have c2 := cell_of_block S10.out.l1 2 _ rfl; clear hb)
    | (go_at_call 43; refine (parts_ok _ ⟨[], [], []⟩ _ (graphAt_nil _) (by decide)).mono ?_; rintro e w11 ⟨B9, rfl, -, hb⟩; have S11 := Lib.hid (S10.out.more hb); rw [HN0.out]; clear c0 c1 c2; have c0 := cell_of_block S11.out.l1 0 _ rfl; have c1 := cell_of_block S11.out.l1 1 _ rfl; have c2 := cell_of_block S11.out.l1 2 _ rfl; clear hb))
  go_ret
  exact ⟨rfl, S11.out.below⟩
end Go.Proofs.Ytnlaonppgebpoaa
