/-
  What must come of fixed calls (layer 14).
-/
import Derived.Test.YtnlaonppgebpoaaKeep2
import Derived.Test.YtnlaonppgebpoaaRReach
import Derived.Test.YtnlaonppgebpoaaCmp
namespace Go.Proofs.Ytnlaonppgebpoaa
open Go.RowKit

theorem edgesAt_block {w : World} {b n : Nat} {l : List Ed} (h : w.heap[b]? = some (.cells (edCells l).toArray 44 (0, 0))) (hn : n = l.length) (cap : Nat) : EdgesAt w (.slice (some ⟨b, 0, none⟩) n cap) l := by
  subst hn
  refine ⟨_, cap, rfl, fun j hj => ⟨b, 0, rfl, ?_⟩⟩
  obtain ⟨e1, e2, e3⟩ := edCells_get l j hj
  rw [Nat.zero_add]
  exact ⟨cell_of_block h _ _ (by simpa using e1), cell_of_block h _ _ (by simpa using e2), cell_of_block h _ _ (by simpa using e3)⟩

def kl : List Ed := [(1, 2, 0), (0, 3, 1), (1, 4, 1)]
def kG : Gr := buildG 3 kl
theorem kE : buildE 3 kl = 0 := by decide +kernel
theorem kF : buildE 1 [(0, 0, 1)] = 1 := by decide +kernel
theorem kRight : rightB kG = true := by decide +kernel
theorem kNodes : nodesN kG = 3 := by decide +kernel
theorem kOut : outL kG 1 = [(1, 2, 0), (1, 4, 1)] := by decide +kernel
theorem kAll : allL kG = [(0, 3, 1), (1, 2, 0), (1, 4, 1)] := by decide +kernel
theorem kBack : outL (backG kG) 1 = [(1, 3, 0), (1, 4, 1)] := by decide +kernel
theorem kKeep : allL (keepG kG [false, true]) = [(1, 4, 1)] := by decide +kernel
theorem kReach : reachL kG [0] = [true, true, false] := by
  have hR := (rightB_iff kG).1 kRight
  symm
  refine reachL_eq hR [0] [true, true, false] (by rw [kNodes]; rfl) ?_ ?_ ?_
  · intro i hi he
    rw [kNodes] at hi ⊢
    have h0 : Rch (allL kG) (Src 3 [0]) 0 := .base ⟨by simp, by omega, by omega⟩
    rcases i with _ | _ | _ | i
    · exact h0
    · exact Rch.step (e := (0, 3, 1)) h0 (by rw [kAll]; simp)
    · simp at he
    · omega
  · intro i hi hm
    have : i = 0 := by simpa using hm
    subst this; rfl
  · rw [kAll]
    intro e he
    simp at he
    rcases he with rfl | rfl | rfl <;> intro _ <;> rfl

structure KnSt (w wr : World) (b1 : Nat) (c1 : Array Value) (G : Gr) : Prop where
  below : Below w.heap.size w wr
  l1 : wr.heap[b1]? = some (.cells c1 26 (0, 0))
  g1 : GraphAt wr (.agg c1) G
theorem KnSt.more {w wr w' : World} {b1 : Nat} {c1 : Array Value} {G : Gr} (h : KnSt w wr b1 c1 G) (hb : Below wr.heap.size wr w') : KnSt w w' b1 c1 G := ⟨h.below.trans (hb.mono h.below.size), bheap hb h.l1, h.g1.below hb⟩
theorem KnSt.intro {w wr : World} {c1 : Array Value} {G : Gr} (hb : Below w.heap.size w wr) (hg : GraphAt wr (.agg c1) G) : KnSt w (wr.alloc (.cells c1 26)) wr.heap.size c1 G :=
  ⟨hb.trans ((balloc _ _).mono hb.size), heap_alloc_new wr _, hg.below (balloc _ _)⟩

theorem kBad (w : World) (v : Value) (h : EdgesAt w v [(0, 0, 1)]) : Calls Try.prog 21 #[.int .i64 1, v] w fun e w' => ∃ v' G', e = .returned (.tuple #[v', .int .i64 1]) ∧ GraphAt w' v' G' ∧ Below w.heap.size w w' := by
  have := build_any 1 v [(0, 0, 1)] w h (by decide)
  rw [kF] at this
  exact this.mono fun e w' ⟨v', a, b, c⟩ => ⟨v', _, a, b, c⟩

set_option maxRecDepth 100000 in
set_option maxHeartbeats 16000000 in
theorem known14 (w : World) : Calls Try.prog 20 #[] w fun e w' => e = .returned (.bool true) ∧ Below w.heap.size w w' := by
  have E1 := Lib.hid (edgesAt_block (b := w.heap.size) (l := kl) (heap_alloc_new w _) rfl 3)
  have hB1 := Lib.hid (build_any 3 _ kl _ E1.out (by decide))
  have F1 := Lib.hid (show buildG 3 kl = kG from rfl)
  rw [F1.out, kE] at hB1
  have k1 := kRight
  have k2 := kNodes
  have k3 := kOut
  have k4 := kAll
  have k5 := kBack
  have k6 := kKeep
  have k7 := kReach
  clear F1 E1
  generalize hG : kG = G at *
  generalize hB : backG G = B at *
  generalize hK : keepG G [false, true] = K at *
  have HBk := Lib.hid hB
  have HKp := Lib.hid hK
  have HR : Hid (∀ v w', GraphAt w' v G → Calls Try.prog 28 #[v] w' fun e w'' => e = .returned (.bool true) ∧ Below w'.heap.size w' w'') := Lib.hid (fun v w' h => by have := right_ok v G w' h; rw [k1] at this; exact this)
  have HN : Hid (∀ v w', GraphAt w' v G → Calls Try.prog 30 #[v] w' fun e w'' => e = .returned (.int .i64 3) ∧ Below w'.heap.size w' w'') := Lib.hid (fun v w' h => by have := nodes_ok v G w' h; rw [k2] at this; exact this)
  have HO : Hid (∀ v w', GraphAt w' v G → Calls Try.prog 26 #[v, .int .i64 1] w' (EdgesBack w' [(1, 2, 0), (1, 4, 1)])) := Lib.hid (fun v w' h => by have := out_ok v G 1 w' h; rw [k3] at this; exact this)
  have HA : Hid (∀ v w', GraphAt w' v G → Calls Try.prog 32 #[v] w' (EdgesBack w' [(0, 3, 1), (1, 2, 0), (1, 4, 1)])) := Lib.hid (fun v w' h => by have := all_any v G w' h; rw [k4] at this; exact this)
  have HO5 : Hid (∀ v w', GraphAt w' v B → Calls Try.prog 26 #[v, .int .i64 1] w' (EdgesBack w' [(1, 3, 0), (1, 4, 1)])) := Lib.hid (fun v w' h => by have := out_ok v B 1 w' h; rw [k5] at this; exact this)
  have HA6 : Hid (∀ v w', GraphAt w' v K → Calls Try.prog 32 #[v] w' (EdgesBack w' [(1, 4, 1)])) := Lib.hid (fun v w' h => by have := all_any v K w' h; rw [k6] at this; exact this)
  have HRe : Hid (∀ v u w', GraphAt w' v G → IntsAt w' u [0] → Calls Try.prog 39 #[v, u] w' (BoolsBack w' [true, true, false])) := Lib.hid (fun v u w' h hu => by have := reach_ok v u G [0] w' h hu (by decide); rw [k7] at this; exact this)
  clear hG hB hK k1 k2 k3 k4 k5 k6 k7
  go_enter Try.func20, Try.ntmps20
  go_wp2_with (first
    | (go_at_call_of 21 (Value.int .i64 3); refine hB1.out.mono ?_; rintro e w1 ⟨v1, rfl, hG, hb⟩; obtain ⟨s1, a1, t1, p1, q1, r1, rfl, -⟩ := hG.var; have S1 := Lib.hid (KnSt.intro ((balloc w _).trans (hb.mono (by simp))) hG); clear hb hG)
    | (go_at_call_of 21 (Value.int .i64 1); refine (kBad _ _ (edgesAt_block (l := [(0, 0, 1)]) (heap_alloc_at _ _ _ (by simp)) rfl 1)).mono ?_; rintro e w2 ⟨v2, G2, rfl, hG, hb⟩; obtain ⟨s2, a2, t2, p2, q2, r2, rfl, -⟩ := hG.var; have S2 := Lib.hid (((S1.out.more (balloc _ _)).more hb).more (balloc w2 (.cells #[.slice s2 G2.S.length p2, .slice a2 G2.A.length q2, .slice t2 G2.T.length r2] 26))); have c10 := cell_of_block S2.out.l1 0 _ rfl; have c11 := cell_of_block S2.out.l1 1 _ rfl; have c12 := cell_of_block S2.out.l1 2 _ rfl; clear hb hG)
    | (go_at_call_of 34 s1; refine (back_ok _ G _ S2.out.g1).mono ?_; rintro e w3 ⟨v3, rfl, hG, hb⟩; rw [HBk.out] at hG; obtain ⟨s5, a5, t5, p5, q5, r5, rfl, -⟩ := hG.var; have S3 := Lib.hid ((S2.out.more hb).more (balloc w3 (.cells #[.slice s5 B.S.length p5, .slice a5 B.A.length q5, .slice t5 B.T.length r5] 26))); have T3 := Lib.hid (KnSt.intro (S2.out.below.trans (hb.mono S2.out.below.size)) hG); clear c10 c11 c12; have c10 := cell_of_block S3.out.l1 0 _ rfl; have c11 := cell_of_block S3.out.l1 1 _ rfl; have c12 := cell_of_block S3.out.l1 2 _ rfl; clear hb hG)
    | (go_at_call_of 36 s1; refine (keep_ok _ _ G [false, true] _ (S3.out.more (balloc _ (.cells #[.bool false, .bool true] 4))).g1 (boolsAt_block (xs := [false, true]) (heap_alloc_at (w3.alloc (.cells #[.slice s5 B.S.length p5, .slice a5 B.A.length q5, .slice t5 B.T.length r5] 26)) (.cells #[.bool false, .bool true] 4) _ (by simp)) rfl 2) (by decide)).mono ?_; rintro e w4 ⟨v4, rfl, hG, hb⟩; rw [HKp.out] at hG; obtain ⟨s6, a6, t6, p6, q6, r6, rfl, -⟩ := hG.var; have S4 := Lib.hid (((S3.out.more (balloc _ _)).more hb).more (balloc w4 (.cells #[.slice s6 K.S.length p6, .slice a6 K.A.length q6, .slice t6 K.T.length r6] 26))); have T4 := Lib.hid (((T3.out.more (balloc _ _)).more hb).more (balloc w4 (.cells #[.slice s6 K.S.length p6, .slice a6 K.A.length q6, .slice t6 K.T.length r6] 26))); have U4 := Lib.hid (KnSt.intro (((S3.out.more (balloc _ _)).more hb).below) hG); clear c10 c11 c12; have c10 := cell_of_block S4.out.l1 0 _ rfl; have c11 := cell_of_block S4.out.l1 1 _ rfl; have c12 := cell_of_block S4.out.l1 2 _ rfl; have c50 := cell_of_block T4.out.l1 0 _ rfl; have c51 := cell_of_block T4.out.l1 1 _ rfl; have c52 := cell_of_block T4.out.l1 2 _ rfl; have c60 := cell_of_block U4.out.l1 0 _ rfl; have c61 := cell_of_block U4.out.l1 1 _ rfl; have c62 := cell_of_block U4.out.l1 2 _ rfl; clear hb hG)
    | (go_at_call_of 28 s1; refine (HR.out _ _ S4.out.g1).mono ?_; rintro e w5 ⟨rfl, hb⟩; have S5 := Lib.hid (S4.out.more hb); have T5 := Lib.hid (T4.out.more hb); have U5 := Lib.hid (U4.out.more hb); clear c10 c11 c12 c50 c51 c52 c60 c61 c62; have c10 := cell_of_block S5.out.l1 0 _ rfl; have c11 := cell_of_block S5.out.l1 1 _ rfl; have c12 := cell_of_block S5.out.l1 2 _ rfl; have c50 := cell_of_block T5.out.l1 0 _ rfl; have c51 := cell_of_block T5.out.l1 1 _ rfl; have c52 := cell_of_block T5.out.l1 2 _ rfl; have c60 := cell_of_block U5.out.l1 0 _ rfl; have c61 := cell_of_block U5.out.l1 1 _ rfl; have c62 := cell_of_block U5.out.l1 2 _ rfl; clear hb)
    | (go_at_call_of 30 s1; refine (HN.out _ _ S5.out.g1).mono ?_; rintro e w6 ⟨rfl, hb⟩; have S6 := Lib.hid (S5.out.more hb); have T6 := Lib.hid (T5.out.more hb); have U6 := Lib.hid (U5.out.more hb); clear c10 c11 c12 c50 c51 c52 c60 c61 c62; have c10 := cell_of_block S6.out.l1 0 _ rfl; have c11 := cell_of_block S6.out.l1 1 _ rfl; have c12 := cell_of_block S6.out.l1 2 _ rfl; have c50 := cell_of_block T6.out.l1 0 _ rfl; have c51 := cell_of_block T6.out.l1 1 _ rfl; have c52 := cell_of_block T6.out.l1 2 _ rfl; have c60 := cell_of_block U6.out.l1 0 _ rfl; have c61 := cell_of_block U6.out.l1 1 _ rfl; have c62 := cell_of_block U6.out.l1 2 _ rfl; clear hb)
    | (go_at_call_of 26 s1; refine (HO.out _ _ S6.out.g1).mono ?_; rintro e w7 ⟨lv, rfl, hE, hb⟩; have S7 := Lib.hid (S6.out.more hb); have T7 := Lib.hid (T6.out.more hb); have U7 := Lib.hid (U6.out.more hb); obtain ⟨la7, lc7, rfl, -⟩ := id hE; have E7 := Lib.hid hE; clear hE; clear c10 c11 c12 c50 c51 c52 c60 c61 c62; have c10 := cell_of_block S7.out.l1 0 _ rfl; have c11 := cell_of_block S7.out.l1 1 _ rfl; have c12 := cell_of_block S7.out.l1 2 _ rfl; have c50 := cell_of_block T7.out.l1 0 _ rfl; have c51 := cell_of_block T7.out.l1 1 _ rfl; have c52 := cell_of_block T7.out.l1 2 _ rfl; have c60 := cell_of_block U7.out.l1 0 _ rfl; have c61 := cell_of_block U7.out.l1 1 _ rfl; have c62 := cell_of_block U7.out.l1 2 _ rfl; clear hb)
    | (go_at_call_of 24 la7; refine (edges_same _ _ [(1, 2, 0), (1, 4, 1)] _ (E7.out.below (balloc _ _)) (edgesAt_block (l := [(1, 2, 0), (1, 4, 1)]) (heap_alloc_new _ _) rfl 2) (by decide)).mono ?_; rintro e w8 ⟨rfl, hb⟩; have S8 := Lib.hid ((S7.out.more (balloc _ _)).more hb); have T8 := Lib.hid ((T7.out.more (balloc _ _)).more hb); have U8 := Lib.hid ((U7.out.more (balloc _ _)).more hb); clear c10 c11 c12 c50 c51 c52 c60 c61 c62; have c10 := cell_of_block S8.out.l1 0 _ rfl; have c11 := cell_of_block S8.out.l1 1 _ rfl; have c12 := cell_of_block S8.out.l1 2 _ rfl; have c50 := cell_of_block T8.out.l1 0 _ rfl; have c51 := cell_of_block T8.out.l1 1 _ rfl; have c52 := cell_of_block T8.out.l1 2 _ rfl; have c60 := cell_of_block U8.out.l1 0 _ rfl; have c61 := cell_of_block U8.out.l1 1 _ rfl; have c62 := cell_of_block U8.out.l1 2 _ rfl; clear hb)
    | (go_at_call_of 32 s1; refine (HA.out _ _ S8.out.g1).mono ?_; rintro e w9 ⟨lv, rfl, hE, hb⟩; have S9 := Lib.hid (S8.out.more hb); have T9 := Lib.hid (T8.out.more hb); have U9 := Lib.hid (U8.out.more hb); obtain ⟨la9, lc9, rfl, -⟩ := id hE; have E9 := Lib.hid hE; clear hE; clear c10 c11 c12 c50 c51 c52 c60 c61 c62; have c10 := cell_of_block S9.out.l1 0 _ rfl; have c11 := cell_of_block S9.out.l1 1 _ rfl; have c12 := cell_of_block S9.out.l1 2 _ rfl; have c50 := cell_of_block T9.out.l1 0 _ rfl; have c51 := cell_of_block T9.out.l1 1 _ rfl; have c52 := cell_of_block T9.out.l1 2 _ rfl; have c60 := cell_of_block U9.out.l1 0 _ rfl; have c61 := cell_of_block U9.out.l1 1 _ rfl; have c62 := cell_of_block U9.out.l1 2 _ rfl; clear hb)
    | (go_at_call_of 26 s5; refine (HO5.out _ _ T9.out.g1).mono ?_; rintro e w10 ⟨lv, rfl, hE, hb⟩; have S10 := Lib.hid (S9.out.more hb); have T10 := Lib.hid (T9.out.more hb); have U10 := Lib.hid (U9.out.more hb); obtain ⟨la10, lc10, rfl, -⟩ := id hE; have E10 := Lib.hid hE; clear hE; clear c10 c11 c12 c50 c51 c52 c60 c61 c62; have c10 := cell_of_block S10.out.l1 0 _ rfl; have c11 := cell_of_block S10.out.l1 1 _ rfl; have c12 := cell_of_block S10.out.l1 2 _ rfl; have c50 := cell_of_block T10.out.l1 0 _ rfl; have c51 := cell_of_block T10.out.l1 1 _ rfl; have c52 := cell_of_block T10.out.l1 2 _ rfl; have c60 := cell_of_block U10.out.l1 0 _ rfl; have c61 := cell_of_block U10.out.l1 1 _ rfl; have c62 := cell_of_block U10.out.l1 2 _ rfl; clear hb)
    | (go_at_call_of 24 la10; refine (edges_same _ _ [(1, 3, 0), (1, 4, 1)] _ (E10.out.below (balloc _ _)) (edgesAt_block (l := [(1, 3, 0), (1, 4, 1)]) (heap_alloc_new _ _) rfl 2) (by decide)).mono ?_; rintro e w11 ⟨rfl, hb⟩; have S11 := Lib.hid ((S10.out.more (balloc _ _)).more hb); have T11 := Lib.hid ((T10.out.more (balloc _ _)).more hb); have U11 := Lib.hid ((U10.out.more (balloc _ _)).more hb); clear c10 c11 c12 c50 c51 c52 c60 c61 c62; have c10 := cell_of_block S11.out.l1 0 _ rfl; have c11 := cell_of_block S11.out.l1 1 _ rfl; have c12 := cell_of_block S11.out.l1 2 _ rfl; have c50 := cell_of_block T11.out.l1 0 _ rfl; have c51 := cell_of_block T11.out.l1 1 _ rfl; have c52 := cell_of_block T11.out.l1 2 _ rfl; have c60 := cell_of_block U11.out.l1 0 _ rfl; have c61 := cell_of_block U11.out.l1 1 _ rfl; have c62 := cell_of_block U11.out.l1 2 _ rfl; clear hb)
    | (go_at_call_of 32 s6; refine (HA6.out _ _ U11.out.g1).mono ?_; rintro e w12 ⟨lv, rfl, hE, hb⟩; have S12 := Lib.hid (S11.out.more hb); have T12 := Lib.hid (T11.out.more hb); have U12 := Lib.hid (U11.out.more hb); obtain ⟨la12, lc12, rfl, -⟩ := id hE; have E12 := Lib.hid hE; clear hE; clear c10 c11 c12 c50 c51 c52 c60 c61 c62; have c10 := cell_of_block S12.out.l1 0 _ rfl; have c11 := cell_of_block S12.out.l1 1 _ rfl; have c12 := cell_of_block S12.out.l1 2 _ rfl; have c50 := cell_of_block T12.out.l1 0 _ rfl; have c51 := cell_of_block T12.out.l1 1 _ rfl; have c52 := cell_of_block T12.out.l1 2 _ rfl; have c60 := cell_of_block U12.out.l1 0 _ rfl; have c61 := cell_of_block U12.out.l1 1 _ rfl; have c62 := cell_of_block U12.out.l1 2 _ rfl; clear hb)
    | (go_at_call_of 24 la12; refine (edges_same _ _ [(1, 4, 1)] _ (E12.out.below (balloc _ _)) (edgesAt_block (l := [(1, 4, 1)]) (heap_alloc_new _ _) rfl 1) (by decide)).mono ?_; rintro e w13 ⟨rfl, hb⟩; have S13 := Lib.hid ((S12.out.more (balloc _ _)).more hb); have T13 := Lib.hid ((T12.out.more (balloc _ _)).more hb); have U13 := Lib.hid ((U12.out.more (balloc _ _)).more hb); clear c10 c11 c12 c50 c51 c52 c60 c61 c62; have c10 := cell_of_block S13.out.l1 0 _ rfl; have c11 := cell_of_block S13.out.l1 1 _ rfl; have c12 := cell_of_block S13.out.l1 2 _ rfl; have c50 := cell_of_block T13.out.l1 0 _ rfl; have c51 := cell_of_block T13.out.l1 1 _ rfl; have c52 := cell_of_block T13.out.l1 2 _ rfl; have c60 := cell_of_block U13.out.l1 0 _ rfl; have c61 := cell_of_block U13.out.l1 1 _ rfl; have c62 := cell_of_block U13.out.l1 2 _ rfl; clear hb)
    | (go_at_call_of 39 s1; refine (HRe.out _ _ _ (S13.out.more (balloc _ (.cells #[.int .i64 0] 3))).g1 (intsAt_block (xs := [0]) (heap_alloc_new w13 (.cells #[.int .i64 0] 3)) rfl 1)).mono ?_; rintro e w14 ⟨lv, rfl, hE, hb⟩; have S14 := Lib.hid ((S13.out.more (balloc _ _)).more hb); have T14 := Lib.hid ((T13.out.more (balloc _ _)).more hb); have U14 := Lib.hid ((U13.out.more (balloc _ _)).more hb); obtain ⟨la14, lc14, rfl, -⟩ := id hE; have E14 := Lib.hid hE; clear hE; clear c10 c11 c12 c50 c51 c52 c60 c61 c62; have c10 := cell_of_block S14.out.l1 0 _ rfl; have c11 := cell_of_block S14.out.l1 1 _ rfl; have c12 := cell_of_block S14.out.l1 2 _ rfl; have c50 := cell_of_block T14.out.l1 0 _ rfl; have c51 := cell_of_block T14.out.l1 1 _ rfl; have c52 := cell_of_block T14.out.l1 2 _ rfl; have c60 := cell_of_block U14.out.l1 0 _ rfl; have c61 := cell_of_block U14.out.l1 1 _ rfl; have c62 := cell_of_block U14.out.l1 2 _ rfl; clear hb)
    | (go_at_call_of 38 la14; refine (bools_same _ _ [true, true, false] _ (E14.out.below (balloc _ (.cells #[.bool true, .bool true, .bool false] 4))) (boolsAt_block (xs := [true, true, false]) (heap_alloc_new w14 (.cells #[.bool true, .bool true, .bool false] 4)) rfl 3) (by decide)).mono ?_; rintro e w15 ⟨rfl, hb⟩; have S15 := Lib.hid ((S14.out.more (balloc _ _)).more hb); have T15 := Lib.hid ((T14.out.more (balloc _ _)).more hb); have U15 := Lib.hid ((U14.out.more (balloc _ _)).more hb); clear c10 c11 c12 c50 c51 c52 c60 c61 c62; have c10 := cell_of_block S15.out.l1 0 _ rfl; have c11 := cell_of_block S15.out.l1 1 _ rfl; have c12 := cell_of_block S15.out.l1 2 _ rfl; have c50 := cell_of_block T15.out.l1 0 _ rfl; have c51 := cell_of_block T15.out.l1 1 _ rfl; have c52 := cell_of_block T15.out.l1 2 _ rfl; have c60 := cell_of_block U15.out.l1 0 _ rfl; have c61 := cell_of_block U15.out.l1 1 _ rfl; have c62 := cell_of_block U15.out.l1 2 _ rfl; clear hb))
  go_ret
  exact ⟨rfl, S15.out.below⟩
end Go.Proofs.Ytnlaonppgebpoaa
