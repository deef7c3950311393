/-
  spinnakerlaw30.known: the walk. (Written by gen_kn30.py.)
-/
import Derived.Test.YtlhpjfnfemebdaaJRReach
import Derived.Test.YtlhpjfnfemebdaaCovG
import Derived.Test.YtlhpjfnfemebdaaUnit30
namespace Go.Proofs.Ytlhpjfnfemebdaa
open Go.RowKit
theorem SpV.six {w : World} {v : Value} {s : Sp} (h : SpV w v s) : ∃ c n k s1 nS p a nA q t nT r x nP y z nB b, v = .agg #[.slice c n k, .slice s1 nS p, .slice a nA q, .slice t nT r, .slice x nP y, .slice z nB b] ∧ n = s.confs.length := by
 obtain ⟨vC, sa, sc, aa, ac, ta, tc, vP, vA, rfl, hC, -, hP, hA⟩ := h.var
 obtain ⟨xc, xcc, rfl, -⟩ := hC
 obtain ⟨xp, xpc, rfl, -⟩ := hP
 obtain ⟨xa, xac, rfl, -⟩ := hA
 exact ⟨_, _, _, _, _, _, _, _, _, _, _, _, _, _, _, _, _, _, rfl, rfl⟩
def kRel (u : PUn) (sv : Value) (rows : List (List Bool)) (j : Nat) (v : Value) (w : World) : Prop :=
 if j = 0 then UnV w v u else if j = 1 then v = sv else BRowsAt w v rows
theorem kRel_mono {u : PUn} {sv : Value} {rows : List (List Bool)} {j : Nat} {v : Value} {w w' : World} (hb : Below w.heap.size w w') (h : kRel u sv rows j v w) : kRel u sv rows j v w' := by
 unfold kRel at h ⊢
 split
 ·rename_i e
  rw [if_pos e] at h
  exact h.below hb
 ·rename_i e
  rw [if_neg e] at h
  split
  ·rename_i e2
   rw [if_pos e2] at h
   exact h
  ·rename_i e2
   rw [if_neg e2] at h
   exact h.below hb
structure KS (w wr : World) (b1 : Nat) (C1 : Array Value) (s1 : Sp) (b2 : Nat) (C2 : Array Value) (s2 : Sp) (dv : Value) : Prop where
 below : Below w.heap.size w wr
 l1 : wr.heap[b1]? = some (.cells C1 32 (0, 0))
 l2 : wr.heap[b2]? = some (.cells C2 32 (0, 0))
 v1 : SpV wr (.agg C1) s1
 v2 : SpV wr (.agg C2) s2
 d : BRowsAt wr dv [[true, false]]
theorem KS.more {w wr w' : World} {b1 b2 : Nat} {C1 C2 : Array Value} {s1 s2 : Sp} {dv : Value} (h : KS w wr b1 C1 s1 b2 C2 s2 dv) (hb : Below wr.heap.size wr w') : KS w w' b1 C1 s1 b2 C2 s2 dv :=
 ⟨h.below.trans (hb.mono h.below.size), bheap hb h.l1, bheap hb h.l2, h.v1.below hb, h.v2.below hb, h.d.below hb⟩
set_option maxRecDepth 100000 in
set_option maxHeartbeats 64000000 in
theorem known30 (w : World) : Calls Try.prog 8 #[] w fun e w' => e = .returned (.bool true) ∧ Below w.heap.size w w' := by
 have HA1 : Hid (∀ (w' : World) (v : Value), UnV w' v u1 → Calls Try.prog 27 #[v, .int .i64 2, .int .i64 1, .int .i64 9] w' (AnyR w' (some sp1))) := Lib.hid (fun w' v h => by have := all_any15 v u1 2 1 9 w' h (lightU_L u1_light) (by omega); rwa [sp1_some] at this)
 have HA2 : Hid (∀ (w' : World) (v : Value), UnV w' v u2 → Calls Try.prog 27 #[v, .int .i64 1, .int .i64 1, .int .i64 9] w' (AnyR w' (some sp2))) := Lib.hid (fun w' v h => by have := all_any15 v u2 1 1 9 w' h (lightU_L u2_light) (by omega); rwa [sp2_some] at this)
 have HDO : Hid (∀ (w' : World) (v v1 : Value), UnV w' v u1 → SpV w' v1 sp1 → Calls Try.prog 9 #[v, v1, .int .i64 2] w' fun r w2 => ∃ rv, r = .returned rv ∧ BRowsAt w2 rv [[true, false]] ∧ Below w'.heap.size w' w2) := Lib.hid (fun w' v v1 h h1 => by have := done30_ok v v1 u1 sp1 2 w' h h1 u1_right sp1_good.ok sp1_good.cf; rwa [kDone] at this)
 have HDE : Hid (∀ (w' : World) (v1 : Value), SpV w' v1 sp1 → Calls Try.prog 13 #[v1] w' fun r w2 => ∃ rv, r = .returned rv ∧ IntsAt w2 rv [0, 1, 2] ∧ Below w'.heap.size w' w2) := Lib.hid (fun w' v1 h1 => by have := depths_ok v1 sp1 (depF sp1.par) w' h1 sp1_good.dp sp1_good.ok ⟨sp1_good.pos, sp1_good.le⟩ sp1_good.edl; rwa [kDep] at this)
 have HWI : Hid (∀ (w' : World) (v1 : Value), SpV w' v1 sp1 → Calls Try.prog 15 #[v1] w' fun r w2 => ∃ rv, r = .returned rv ∧ IntsAt w2 rv [1, 1, 1] ∧ Below w'.heap.size w' w2) := Lib.hid (fun w' v1 h1 => by have := widths_ok v1 sp1 (depF sp1.par) w' h1 sp1_good.dp sp1_good.ok ⟨sp1_good.pos, sp1_good.le⟩ sp1_good.edl; rwa [kWid] at this)
 have HAC : Hid (∀ (w' : World) (v1 : Value), SpV w' v1 sp1 → Calls Try.prog 17 #[v1, .int .i64 2] w' fun r w2 => ∃ rv, r = .returned rv ∧ IntsAt w2 rv [1, 1] ∧ Below w'.heap.size w' w2) := Lib.hid (fun w' v1 h1 => by have := acting_any v1 sp1 2 w' h1 sp1_good.ok sp1_good.ag100; rwa [kAct] at this)
 have HS1 : Hid (∀ (w' : World) (v1 : Value), SpV w' v1 sp1 → Calls Try.prog 19 #[v1] w' fun r w2 => ∃ rv, r = .returned rv ∧ IntsAt w2 rv [] ∧ Below w'.heap.size w' w2) := Lib.hid (fun w' v1 h1 => by have := spins_ok v1 sp1 w' h1 sp1_good.ok sp1_good.le; rwa [kSpin1] at this)
 have HS2 : Hid (∀ (w' : World) (v1 : Value), SpV w' v1 sp2 → Calls Try.prog 19 #[v1] w' fun r w2 => ∃ rv, r = .returned rv ∧ IntsAt w2 rv [0] ∧ Below w'.heap.size w' w2) := Lib.hid (fun w' v1 h1 => by have := spins_ok v1 sp2 w' h1 sp2_good.ok sp2_good.le; rwa [kSpin2] at this)
 have HUN := Lib.hid unit30_ok
 have HU2 := Lib.hid unit2_end
 generalize sp1 = s1 at *
 generalize sp2 = s2 at *
 generalize u1 = un1 at *
 go_enter Try.func8, Try.ntmps8
 go_wp2_with (first
  | (go_at_call 27; refine (HA1.out _ _ HU.out).mono ?_; rintro e w2 ⟨⟨sv, rfl, hsv, -⟩, hb⟩; obtain ⟨c1, n1, k1, s11, nS1, p1, a1, nA1, q1, t1, nT1, r1, x1, nP1, y1, z1, nB1, v1, rfl, -⟩ := hsv.six; have HSV := Lib.hid hsv; have HB2 := Lib.hid (HB1.out.trans (hb.mono HB1.out.size)); clear hb hsv HU HB1)
  | (go_at_call 28; refine (HUN.out _).mono ?_; rintro e w1 ⟨uv, rfl, hu, hb⟩; have HU := Lib.hid hu; have HB1 := Lib.hid hb; clear hu hb))
 have HB3 := Lib.hid (HB2.out.trans ((balloc w2 (.cells #[.slice c1 n1 k1, .slice s11 nS1 p1, .slice a1 nA1 q1, .slice t1 nT1 r1, .slice x1 nP1 y1, .slice z1 nB1 v1] 32)).mono HB2.out.size))
 have HSV3 := Lib.hid (HSV.out.below (balloc w2 (.cells #[.slice c1 n1 k1, .slice s11 nS1 p1, .slice a1 nA1 q1, .slice t1 nT1 r1, .slice x1 nP1 y1, .slice z1 nB1 v1] 32)))
 have L3 := Lib.hid (heap_alloc_new w2 (.cells #[.slice c1 n1 k1, .slice s11 nS1 p1, .slice a1 nA1 q1, .slice t1 nT1 r1, .slice x1 nP1 y1, .slice z1 nB1 v1] 32))
 clear HB2 HSV
 obtain ⟨b1, hb1⟩ : ∃ b, b = w2.heap.size := ⟨_, rfl⟩
 rw [← hb1] at L3 ⊢
 clear hb1
 generalize (w2.alloc (.cells #[.slice c1 n1 k1, .slice s11 nS1 p1, .slice a1 nA1 q1, .slice t1 nT1 r1, .slice x1 nP1 y1, .slice z1 nB1 v1] 32)) = w3 at *
 have d0 := cell_of_block L3.out 0 (.slice c1 n1 k1) rfl
 have d1 := cell_of_block L3.out 1 (.slice s11 nS1 p1) rfl
 have d2 := cell_of_block L3.out 2 (.slice a1 nA1 q1) rfl
 have d3 := cell_of_block L3.out 3 (.slice t1 nT1 r1) rfl
 have d4 := cell_of_block L3.out 4 (.slice x1 nP1 y1) rfl
 have d5 := cell_of_block L3.out 5 (.slice z1 nB1 v1) rfl
 refine region_rel_tail 3 (fun _ => undef)
  (fun f => { tmps := #[.bool false, .pointer (some ⟨b1, 0, none⟩), .int .i64 0, undef, undef, undef, .tuple #[.agg #[.slice c1 n1 k1, .slice s11 nS1 p1, .slice a1 nA1 q1, .slice t1 nT1 r1, .slice x1 nP1 y1, .slice z1 nB1 v1], .int .i64 0], uv, .tuple #[.agg #[.slice c1 n1 k1, .slice s11 nS1 p1, .slice a1 nA1 q1, .slice t1 nT1 r1, .slice x1 nP1 y1, .slice z1 nB1 v1], .int .i64 0], .agg #[.slice c1 n1 k1, .slice s11 nS1 p1, .slice a1 nA1 q1, .slice t1 nT1 r1, .slice x1 nP1 y1, .slice z1 nB1 v1], .int .i64 0, f 11, f 12, f 13, undef, undef, undef, undef, undef, undef, undef, undef, undef, undef, undef, undef, undef, undef, undef, undef, undef, undef, undef, undef, undef, undef, undef, undef, undef, undef, undef, undef, undef, undef, undef, undef, undef, undef, undef, undef, undef, undef, undef, undef, undef, undef, undef, undef, undef, undef, undef, undef, undef, undef], defers := [] }) (fun j => j + 11)
  (kRel un1 (.agg #[.slice c1 n1 k1, .slice s11 nS1 p1, .slice a1 nA1 q1, .slice t1 nT1 r1, .slice x1 nP1 y1, .slice z1 nB1 v1]) [[true, false]])
  rfl (by kernel_rfl) (by kernel_rfl) (by kernel_rfl) (by decide) (by kernel_rfl) (fun i u w w' hb h => kRel_mono hb h) (by kernel_rfl) (by kernel_rfl) ?_ ?_ ?_
 ·intro j hj f v
  rcases j with _ | _ | _ | j
  all_goals first | rfl | omega | (simp at hj; omega)
 ·refine ⟨?_, ?_, ?_, trivial⟩
  ·intro f w' hb hd K hK
   dsimp only
   go_simp
   go_wp2_with (go_at_call 28; refine (HUN.out _).mono ?_; rintro e w5 ⟨uw, rfl, hu, hb5⟩)
   exact hK _ w5 hb5 hu
  ·intro f w' hb hd K hK
   have e0 := bkeep hb d0
   have e1 := bkeep hb d1
   have e2 := bkeep hb d2
   have e3 := bkeep hb d3
   have e4 := bkeep hb d4
   have e5 := bkeep hb d5
   dsimp only
   go_simp
   exact hK (.agg #[.slice c1 n1 k1, .slice s11 nS1 p1, .slice a1 nA1 q1, .slice t1 nT1 r1, .slice x1 nP1 y1, .slice z1 nB1 v1]) w' (Below.refl _ _) rfl
  ·intro f w' hb hd K hK
   have h0 : UnV w' (f 11) un1 := hd 0 (by kernel_rfl)
   have h1 : f 12 = (.agg #[.slice c1 n1 k1, .slice s11 nS1 p1, .slice a1 nA1 q1, .slice t1 nT1 r1, .slice x1 nP1 y1, .slice z1 nB1 v1]) := hd 1 (by kernel_rfl)
   have HO := Lib.hid (HDO.out w' _ _ h0 (HSV3.out.below ((Below.refl _ w3).drew.trans hb)))
   clear h0
   dsimp only
   go_simp
   go_wp2_with (go_at_call 9; refine HO.out.mono ?_; rintro e w5 ⟨rv, rfl, hd5, hb5⟩)
   have q := hK _ w5 hb5 hd5
   simp only [h1] at q
   exact q
 intro f w4 hb4 hr
 have hdv : BRowsAt w4 (f 13) [[true, false]] := hr 2 (by decide)
 clear hr
 obtain ⟨da, dc, h13, hrow⟩ := id hdv
 rw [h13] at hdv
 simp only [h13, List.drop_succ_cons, List.drop_zero]
 generalize f 11 = g11
 generalize f 12 = g12
 obtain ⟨b8, o8, u8, rfl, e8, hbo⟩ := hrow 0 (by simp)
 rw [Nat.add_zero] at e8
 obtain ⟨ra, rc, rfl, -⟩ := id hbo
 have HBO : Hid (BoolsAt w4 (.slice ra 2 rc) [true, false]) := Lib.hid hbo
 have HDV := Lib.hid hdv
 have HSV4 := Lib.hid (HSV3.out.below hb4)
 have L4 := Lib.hid (bheap hb4 L3.out)
 have HB4 := Lib.hid (HB3.out.trans (Below.mono hb4 HB3.out.size))
 clear hbo hdv hrow hb4 HSV3 L3 HB3 d0 d1 d2 d3 d4 d5
 have HUN2 := Lib.hid (HU2.out w4)
 go_wp2_with (first
  | (go_at_call 12; refine (ints_same _ _ [0] _ (I14.out.below (balloc _ _)) (intsAt_block (xs := [0]) (heap_alloc_new w14 _) rfl 1) (by decide)).mono ?_; rintro e w15 ⟨rfl, hb⟩; have S15 := Lib.hid ((S14.out.more (balloc _ _)).more hb); clear d0 g0 d1 g1 d2 g2 d3 g3 d4 g4 d5 g5; have d0 := cell_of_block S15.out.l1 0 (.slice c1 n1 k1) rfl; have g0 := cell_of_block S15.out.l2 0 (.slice c2 n2 k2) rfl; have d1 := cell_of_block S15.out.l1 1 (.slice s11 nS1 p1) rfl; have g1 := cell_of_block S15.out.l2 1 (.slice s12 nS2 p2) rfl; have d2 := cell_of_block S15.out.l1 2 (.slice a1 nA1 q1) rfl; have g2 := cell_of_block S15.out.l2 2 (.slice a2 nA2 q2) rfl; have d3 := cell_of_block S15.out.l1 3 (.slice t1 nT1 r1) rfl; have g3 := cell_of_block S15.out.l2 3 (.slice t2 nT2 r2) rfl; have d4 := cell_of_block S15.out.l1 4 (.slice x1 nP1 y1) rfl; have g4 := cell_of_block S15.out.l2 4 (.slice x2 nP2 y2) rfl; have d5 := cell_of_block S15.out.l1 5 (.slice z1 nB1 v1) rfl; have g5 := cell_of_block S15.out.l2 5 (.slice z2 nB2 v2) rfl; clear hb)
  | (go_at_call 19; refine (HS2.out _ _ S13.out.v2).mono ?_; rintro e w14 ⟨rv, rfl, hi, hb⟩; have S14 := Lib.hid (S13.out.more hb); obtain ⟨ra14, rc14, rfl, -⟩ := id hi; have I14 := Lib.hid hi; clear hi; clear d0 g0 d1 g1 d2 g2 d3 g3 d4 g4 d5 g5; have d0 := cell_of_block S14.out.l1 0 (.slice c1 n1 k1) rfl; have g0 := cell_of_block S14.out.l2 0 (.slice c2 n2 k2) rfl; have d1 := cell_of_block S14.out.l1 1 (.slice s11 nS1 p1) rfl; have g1 := cell_of_block S14.out.l2 1 (.slice s12 nS2 p2) rfl; have d2 := cell_of_block S14.out.l1 2 (.slice a1 nA1 q1) rfl; have g2 := cell_of_block S14.out.l2 2 (.slice a2 nA2 q2) rfl; have d3 := cell_of_block S14.out.l1 3 (.slice t1 nT1 r1) rfl; have g3 := cell_of_block S14.out.l2 3 (.slice t2 nT2 r2) rfl; have d4 := cell_of_block S14.out.l1 4 (.slice x1 nP1 y1) rfl; have g4 := cell_of_block S14.out.l2 4 (.slice x2 nP2 y2) rfl; have d5 := cell_of_block S14.out.l1 5 (.slice z1 nB1 v1) rfl; have g5 := cell_of_block S14.out.l2 5 (.slice z2 nB2 v2) rfl; clear hb)
  | (go_at_call 19; refine (HS1.out _ _ S12.out.v1).mono ?_; rintro e w13 ⟨rv, rfl, hi, hb⟩; have S13 := Lib.hid (S12.out.more hb); obtain ⟨ra13, rc13, rfl, -⟩ := id hi; have I13 := Lib.hid hi; clear hi; clear d0 g0 d1 g1 d2 g2 d3 g3 d4 g4 d5 g5; have d0 := cell_of_block S13.out.l1 0 (.slice c1 n1 k1) rfl; have g0 := cell_of_block S13.out.l2 0 (.slice c2 n2 k2) rfl; have d1 := cell_of_block S13.out.l1 1 (.slice s11 nS1 p1) rfl; have g1 := cell_of_block S13.out.l2 1 (.slice s12 nS2 p2) rfl; have d2 := cell_of_block S13.out.l1 2 (.slice a1 nA1 q1) rfl; have g2 := cell_of_block S13.out.l2 2 (.slice a2 nA2 q2) rfl; have d3 := cell_of_block S13.out.l1 3 (.slice t1 nT1 r1) rfl; have g3 := cell_of_block S13.out.l2 3 (.slice t2 nT2 r2) rfl; have d4 := cell_of_block S13.out.l1 4 (.slice x1 nP1 y1) rfl; have g4 := cell_of_block S13.out.l2 4 (.slice x2 nP2 y2) rfl; have d5 := cell_of_block S13.out.l1 5 (.slice z1 nB1 v1) rfl; have g5 := cell_of_block S13.out.l2 5 (.slice z2 nB2 v2) rfl; clear hb)
  | (go_at_call 12; refine (ints_same _ _ [1, 1] _ (I11.out.below (balloc _ _)) (intsAt_block (xs := [1, 1]) (heap_alloc_new w11 _) rfl 2) (by decide)).mono ?_; rintro e w12 ⟨rfl, hb⟩; have S12 := Lib.hid ((S11.out.more (balloc _ _)).more hb); clear d0 g0 d1 g1 d2 g2 d3 g3 d4 g4 d5 g5; have d0 := cell_of_block S12.out.l1 0 (.slice c1 n1 k1) rfl; have g0 := cell_of_block S12.out.l2 0 (.slice c2 n2 k2) rfl; have d1 := cell_of_block S12.out.l1 1 (.slice s11 nS1 p1) rfl; have g1 := cell_of_block S12.out.l2 1 (.slice s12 nS2 p2) rfl; have d2 := cell_of_block S12.out.l1 2 (.slice a1 nA1 q1) rfl; have g2 := cell_of_block S12.out.l2 2 (.slice a2 nA2 q2) rfl; have d3 := cell_of_block S12.out.l1 3 (.slice t1 nT1 r1) rfl; have g3 := cell_of_block S12.out.l2 3 (.slice t2 nT2 r2) rfl; have d4 := cell_of_block S12.out.l1 4 (.slice x1 nP1 y1) rfl; have g4 := cell_of_block S12.out.l2 4 (.slice x2 nP2 y2) rfl; have d5 := cell_of_block S12.out.l1 5 (.slice z1 nB1 v1) rfl; have g5 := cell_of_block S12.out.l2 5 (.slice z2 nB2 v2) rfl; clear hb)
  | (go_at_call 17; refine (HAC.out _ _ S10.out.v1).mono ?_; rintro e w11 ⟨rv, rfl, hi, hb⟩; have S11 := Lib.hid (S10.out.more hb); obtain ⟨ra11, rc11, rfl, -⟩ := id hi; have I11 := Lib.hid hi; clear hi; clear d0 g0 d1 g1 d2 g2 d3 g3 d4 g4 d5 g5; have d0 := cell_of_block S11.out.l1 0 (.slice c1 n1 k1) rfl; have g0 := cell_of_block S11.out.l2 0 (.slice c2 n2 k2) rfl; have d1 := cell_of_block S11.out.l1 1 (.slice s11 nS1 p1) rfl; have g1 := cell_of_block S11.out.l2 1 (.slice s12 nS2 p2) rfl; have d2 := cell_of_block S11.out.l1 2 (.slice a1 nA1 q1) rfl; have g2 := cell_of_block S11.out.l2 2 (.slice a2 nA2 q2) rfl; have d3 := cell_of_block S11.out.l1 3 (.slice t1 nT1 r1) rfl; have g3 := cell_of_block S11.out.l2 3 (.slice t2 nT2 r2) rfl; have d4 := cell_of_block S11.out.l1 4 (.slice x1 nP1 y1) rfl; have g4 := cell_of_block S11.out.l2 4 (.slice x2 nP2 y2) rfl; have d5 := cell_of_block S11.out.l1 5 (.slice z1 nB1 v1) rfl; have g5 := cell_of_block S11.out.l2 5 (.slice z2 nB2 v2) rfl; clear hb)
  | (go_at_call 12; refine (ints_same _ _ [1, 1, 1] _ (I9.out.below (balloc _ _)) (intsAt_block (xs := [1, 1, 1]) (heap_alloc_new w9 _) rfl 3) (by decide)).mono ?_; rintro e w10 ⟨rfl, hb⟩; have S10 := Lib.hid ((S9.out.more (balloc _ _)).more hb); clear d0 g0 d1 g1 d2 g2 d3 g3 d4 g4 d5 g5; have d0 := cell_of_block S10.out.l1 0 (.slice c1 n1 k1) rfl; have g0 := cell_of_block S10.out.l2 0 (.slice c2 n2 k2) rfl; have d1 := cell_of_block S10.out.l1 1 (.slice s11 nS1 p1) rfl; have g1 := cell_of_block S10.out.l2 1 (.slice s12 nS2 p2) rfl; have d2 := cell_of_block S10.out.l1 2 (.slice a1 nA1 q1) rfl; have g2 := cell_of_block S10.out.l2 2 (.slice a2 nA2 q2) rfl; have d3 := cell_of_block S10.out.l1 3 (.slice t1 nT1 r1) rfl; have g3 := cell_of_block S10.out.l2 3 (.slice t2 nT2 r2) rfl; have d4 := cell_of_block S10.out.l1 4 (.slice x1 nP1 y1) rfl; have g4 := cell_of_block S10.out.l2 4 (.slice x2 nP2 y2) rfl; have d5 := cell_of_block S10.out.l1 5 (.slice z1 nB1 v1) rfl; have g5 := cell_of_block S10.out.l2 5 (.slice z2 nB2 v2) rfl; clear hb)
  | (go_at_call 15; refine (HWI.out _ _ S8.out.v1).mono ?_; rintro e w9 ⟨rv, rfl, hi, hb⟩; have S9 := Lib.hid (S8.out.more hb); obtain ⟨ra9, rc9, rfl, -⟩ := id hi; have I9 := Lib.hid hi; clear hi; clear d0 g0 d1 g1 d2 g2 d3 g3 d4 g4 d5 g5; have d0 := cell_of_block S9.out.l1 0 (.slice c1 n1 k1) rfl; have g0 := cell_of_block S9.out.l2 0 (.slice c2 n2 k2) rfl; have d1 := cell_of_block S9.out.l1 1 (.slice s11 nS1 p1) rfl; have g1 := cell_of_block S9.out.l2 1 (.slice s12 nS2 p2) rfl; have d2 := cell_of_block S9.out.l1 2 (.slice a1 nA1 q1) rfl; have g2 := cell_of_block S9.out.l2 2 (.slice a2 nA2 q2) rfl; have d3 := cell_of_block S9.out.l1 3 (.slice t1 nT1 r1) rfl; have g3 := cell_of_block S9.out.l2 3 (.slice t2 nT2 r2) rfl; have d4 := cell_of_block S9.out.l1 4 (.slice x1 nP1 y1) rfl; have g4 := cell_of_block S9.out.l2 4 (.slice x2 nP2 y2) rfl; have d5 := cell_of_block S9.out.l1 5 (.slice z1 nB1 v1) rfl; have g5 := cell_of_block S9.out.l2 5 (.slice z2 nB2 v2) rfl; clear hb)
  | (go_at_call 12; refine (ints_same _ _ [0, 1, 2] _ (I7.out.below (balloc _ _)) (intsAt_block (xs := [0, 1, 2]) (heap_alloc_new w7 _) rfl 3) (by decide)).mono ?_; rintro e w8 ⟨rfl, hb⟩; have S8 := Lib.hid ((S7.out.more (balloc _ _)).more hb); clear d0 g0 d1 g1 d2 g2 d3 g3 d4 g4 d5 g5; have d0 := cell_of_block S8.out.l1 0 (.slice c1 n1 k1) rfl; have g0 := cell_of_block S8.out.l2 0 (.slice c2 n2 k2) rfl; have d1 := cell_of_block S8.out.l1 1 (.slice s11 nS1 p1) rfl; have g1 := cell_of_block S8.out.l2 1 (.slice s12 nS2 p2) rfl; have d2 := cell_of_block S8.out.l1 2 (.slice a1 nA1 q1) rfl; have g2 := cell_of_block S8.out.l2 2 (.slice a2 nA2 q2) rfl; have d3 := cell_of_block S8.out.l1 3 (.slice t1 nT1 r1) rfl; have g3 := cell_of_block S8.out.l2 3 (.slice t2 nT2 r2) rfl; have d4 := cell_of_block S8.out.l1 4 (.slice x1 nP1 y1) rfl; have g4 := cell_of_block S8.out.l2 4 (.slice x2 nP2 y2) rfl; have d5 := cell_of_block S8.out.l1 5 (.slice z1 nB1 v1) rfl; have g5 := cell_of_block S8.out.l2 5 (.slice z2 nB2 v2) rfl; clear hb)
  | (go_at_call 13; refine (HDE.out _ _ S6.out.v1).mono ?_; rintro e w7 ⟨rv, rfl, hi, hb⟩; have S7 := Lib.hid (S6.out.more hb); obtain ⟨ra7, rc7, rfl, -⟩ := id hi; have I7 := Lib.hid hi; clear hi; clear d0 g0 d1 g1 d2 g2 d3 g3 d4 g4 d5 g5; have d0 := cell_of_block S7.out.l1 0 (.slice c1 n1 k1) rfl; have g0 := cell_of_block S7.out.l2 0 (.slice c2 n2 k2) rfl; have d1 := cell_of_block S7.out.l1 1 (.slice s11 nS1 p1) rfl; have g1 := cell_of_block S7.out.l2 1 (.slice s12 nS2 p2) rfl; have d2 := cell_of_block S7.out.l1 2 (.slice a1 nA1 q1) rfl; have g2 := cell_of_block S7.out.l2 2 (.slice a2 nA2 q2) rfl; have d3 := cell_of_block S7.out.l1 3 (.slice t1 nT1 r1) rfl; have g3 := cell_of_block S7.out.l2 3 (.slice t2 nT2 r2) rfl; have d4 := cell_of_block S7.out.l1 4 (.slice x1 nP1 y1) rfl; have g4 := cell_of_block S7.out.l2 4 (.slice x2 nP2 y2) rfl; have d5 := cell_of_block S7.out.l1 5 (.slice z1 nB1 v1) rfl; have g5 := cell_of_block S7.out.l2 5 (.slice z2 nB2 v2) rfl; clear hb)
  | (go_at_call 11; refine (bools_same _ _ [true, false] _ (HBO5.out.below (balloc (w5.alloc (.cells #[.slice c2 n2 k2, .slice s12 nS2 p2, .slice a2 nA2 q2, .slice t2 nT2 r2, .slice x2 nP2 y2, .slice z2 nB2 v2] 32)) (.cells #[.bool true, .bool false] 4))) (boolsAt_block (xs := [true, false]) (heap_alloc_at (w5.alloc (.cells #[.slice c2 n2 k2, .slice s12 nS2 p2, .slice a2 nA2 q2, .slice t2 nT2 r2, .slice x2 nP2 y2, .slice z2 nB2 v2] 32)) (.cells #[.bool true, .bool false] 4) (w5.heap.size + 1) (by simp)) rfl 2) (by decide)).mono ?_; rintro e w6 ⟨rfl, hb⟩; have S6 := Lib.hid ((S5.out.more (balloc _ _)).more hb); clear d0 g0 d1 g1 d2 g2 d3 g3 d4 g4 d5 g5; have d0 := cell_of_block S6.out.l1 0 (.slice c1 n1 k1) rfl; have g0 := cell_of_block S6.out.l2 0 (.slice c2 n2 k2) rfl; have d1 := cell_of_block S6.out.l1 1 (.slice s11 nS1 p1) rfl; have g1 := cell_of_block S6.out.l2 1 (.slice s12 nS2 p2) rfl; have d2 := cell_of_block S6.out.l1 2 (.slice a1 nA1 q1) rfl; have g2 := cell_of_block S6.out.l2 2 (.slice a2 nA2 q2) rfl; have d3 := cell_of_block S6.out.l1 3 (.slice t1 nT1 r1) rfl; have g3 := cell_of_block S6.out.l2 3 (.slice t2 nT2 r2) rfl; have d4 := cell_of_block S6.out.l1 4 (.slice x1 nP1 y1) rfl; have g4 := cell_of_block S6.out.l2 4 (.slice x2 nP2 y2) rfl; have d5 := cell_of_block S6.out.l1 5 (.slice z1 nB1 v1) rfl; have g5 := cell_of_block S6.out.l2 5 (.slice z2 nB2 v2) rfl; clear hb)
  | (go_at_call 27; refine (HA2.out _ _ HUN2.out.1).mono ?_; rintro e w5 ⟨⟨sv, rfl, hsv, -⟩, hb⟩; obtain ⟨c2, n2, k2, s12, nS2, p2, a2, nA2, q2, t2, nT2, r2, x2, nP2, y2, z2, nB2, v2, rfl, -⟩ := hsv.six; have hx := HUN2.out.2.trans (hb.mono HUN2.out.2.size); have S5 := Lib.hid (KS.more (b2 := w5.heap.size) ⟨HB4.out.trans ((hx.trans ((balloc w5 (.cells #[.slice c2 n2 k2, .slice s12 nS2 p2, .slice a2 nA2 q2, .slice t2 nT2 r2, .slice x2 nP2 y2, .slice z2 nB2 v2] 32)).mono hx.size)).mono HB4.out.size), bheap (hx.trans ((balloc w5 (.cells #[.slice c2 n2 k2, .slice s12 nS2 p2, .slice a2 nA2 q2, .slice t2 nT2 r2, .slice x2 nP2 y2, .slice z2 nB2 v2] 32)).mono hx.size)) L4.out, heap_alloc_new w5 (.cells #[.slice c2 n2 k2, .slice s12 nS2 p2, .slice a2 nA2 q2, .slice t2 nT2 r2, .slice x2 nP2 y2, .slice z2 nB2 v2] 32), HSV4.out.below (hx.trans ((balloc w5 (.cells #[.slice c2 n2 k2, .slice s12 nS2 p2, .slice a2 nA2 q2, .slice t2 nT2 r2, .slice x2 nP2 y2, .slice z2 nB2 v2] 32)).mono hx.size)), hsv.below (balloc w5 _), HDV.out.below (hx.trans ((balloc w5 (.cells #[.slice c2 n2 k2, .slice s12 nS2 p2, .slice a2 nA2 q2, .slice t2 nT2 r2, .slice x2 nP2 y2, .slice z2 nB2 v2] 32)).mono hx.size))⟩ (Below.refl _ _)); have e9 := bkeep (hx.trans ((balloc w5 (.cells #[.slice c2 n2 k2, .slice s12 nS2 p2, .slice a2 nA2 q2, .slice t2 nT2 r2, .slice x2 nP2 y2, .slice z2 nB2 v2] 32)).mono hx.size)) e8; have HBO5 := Lib.hid (HBO.out.below (hx.trans ((balloc w5 (.cells #[.slice c2 n2 k2, .slice s12 nS2 p2, .slice a2 nA2 q2, .slice t2 nT2 r2, .slice x2 nP2 y2, .slice z2 nB2 v2] 32)).mono hx.size))); clear hb hsv hx HUN2 HSV4 L4 HB4 HDV HBO e8; have d0 := cell_of_block S5.out.l1 0 (.slice c1 n1 k1) rfl; have g0 := cell_of_block S5.out.l2 0 (.slice c2 n2 k2) rfl; have d1 := cell_of_block S5.out.l1 1 (.slice s11 nS1 p1) rfl; have g1 := cell_of_block S5.out.l2 1 (.slice s12 nS2 p2) rfl; have d2 := cell_of_block S5.out.l1 2 (.slice a1 nA1 q1) rfl; have g2 := cell_of_block S5.out.l2 2 (.slice a2 nA2 q2) rfl; have d3 := cell_of_block S5.out.l1 3 (.slice t1 nT1 r1) rfl; have g3 := cell_of_block S5.out.l2 3 (.slice t2 nT2 r2) rfl; have d4 := cell_of_block S5.out.l1 4 (.slice x1 nP1 y1) rfl; have g4 := cell_of_block S5.out.l2 4 (.slice x2 nP2 y2) rfl; have d5 := cell_of_block S5.out.l1 5 (.slice z1 nB1 v1) rfl; have g5 := cell_of_block S5.out.l2 5 (.slice z2 nB2 v2) rfl))
 go_ret
 exact ⟨rfl, S15.out.below⟩
end Go.Proofs.Ytlhpjfnfemebdaa
