/-
  spinnakerlaw17.SccRing: the walk.
-/
import Derived.Test.YtnlaonppgebpoaaKnown17
import Derived.Test.YtnlaonppgebpoaaRingLaw
import Derived.Test.YtnlaonppgebpoaaAppend
namespace Go.Proofs.Ytnlaonppgebpoaa
open Go.RowKit

/-- two rows of edges of the call's own -/
structure RgM (w wr : World) (v7 v8 : Value) (l7 l8 : List Ed) : Prop where
  below : Below w.heap.size w wr
  o7 : wr.ownsRow w.heap.size 44 3 v7 l7.length (edCells l7)
  o8 : wr.ownsRow w.heap.size 44 3 v8 l8.length (edCells l8)
  ap : ∀ q, v7.ownBlock = some q → v8.ownBlock ≠ some q
section
variable {w wr w' : World} {v7 v8 : Value} {l7 l8 : List Ed}
theorem RgM.swap (h : RgM w wr v7 v8 l7 l8) : RgM w wr v8 v7 l8 l7 := ⟨h.below, h.o8, h.o7, fun q h1 h2 => h.ap q h2 h1⟩
theorem RgM.more (h : RgM w wr v7 v8 l7 l8) (hb : Below wr.heap.size wr w') : RgM w w' v7 v8 l7 l8 :=
  ⟨h.below.trans (hb.mono h.below.size), ownsRow_frm (F := fun _ => False) h.o7 (bfrm hb _) (fun _ _ => id), ownsRow_frm (F := fun _ => False) h.o8 (bfrm hb _) (fun _ _ => id), h.ap⟩
theorem RgM.push (h : RgM w wr v7 v8 l7 l8) {o : Obj} {m g cap : Nat} {e : Ed} (hm : l7.length = m) (hg : (wr.alloc o).grownBy w' v7.ownBlock) (hor : v7.ownBlock = some g ∨ g = wr.heap.size + 1)
    (hown : w'.ownsRow w.heap.size 44 3 (.slice (some ⟨g, 0, none⟩) (m + 1) cap) (m + 1) (edCells l7 ++ [.int .i64 e.1, .int .i64 e.2.1, .int .i64 e.2.2])) : RgM w w' (.slice (some ⟨g, 0, none⟩) (m + 1) cap) v8 (l7 ++ [e]) l8 := by
  subst hm
  refine ⟨Below.own h.below h.o7 hg, by rw [edCells_append, List.length_append]; exact hown, (h.o8.alloc o).kept hg ?_, fun q hq e2 => ?_⟩
  · rcases e : v8.ownBlock with _ | q
    · exact .inl rfl
    · exact .inr (fun e2 => h.ap q e2.symm e)
  · have hq' : g = q := by simpa [Value.ownBlock] using hq
    subst hq'
    rcases hor with e3 | e3
    · exact h.ap _ e3 e2
    · have := (h.o8.lt _ e2).2; omega
end
theorem ringL_succ (k b i : Nat) : ringL k b (i + 1) = ringL k b i ++ [((i : Int), 0, (((i + b) % k : Nat) : Int))] := by simp [ringL, List.range_succ]
theorem rowL_succ (i : Nat) : rowL (i + 1) = rowL i ++ [((i : Int), 0, (i : Int) + 1)] := by simp [rowL, List.range_succ]
theorem ringL_len (k b i : Nat) : (ringL k b i).length = i := by simp [ringL]
theorem rowL_len (i : Nat) : (rowL i).length = i := by simp [rowL]
theorem trem (a b : Nat) : ((a : Int)).tmod (b : Int) = ((a % b : Nat) : Int) := by
  rw [Int.ofNat_tmod]

set_option maxRecDepth 100000 in
set_option maxHeartbeats 16000000 in
theorem ring_walk0 (n s k b : Nat) (hk : k = 1 + n % 60) (hb : b = 1 + s % k) (hn : n ≤ 255) (hs : s ≤ 255) (w : World) :
    Calls Try.prog 11 #[.int .u8 (n : Nat), .int .u8 (s : Nat)] w fun e w' => e = .returned (.bool true) ∧ Below w.heap.size w w' := by
  obtain ⟨i0, hi0, hz0, hz1, hz2⟩ := info_parts Try.info44
  have hk1 : 0 < k ∧ k ≤ 60 := by have := Nat.mod_lt n (show 0 < 60 by omega); omega
  have hb1 : 0 < b ∧ b ≤ k := by have := Nat.mod_lt s hk1.1; omega
  go_enter Try.func11, Try.ntmps11
  go_wp2_with fail
  have q1 : (1 + (n : Int) % 60) = (k : Int) := by omega
  rw [q1]
  have q2 : wrap64 (1 + (s : Int) % (k : Int)) = (b : Int) := by
    have h2 : ((s % k : Nat) : Int) = (s : Int) % (k : Int) := by simp
    have h3 := Nat.mod_lt s hk1.1
    rw [← h2]
    unfold wrap64
    omega
  rw [q2]
  generalize (n : Int) % 60 = x1 at *
  generalize (s : Int) % (k : Int) = x2 at *
  clear hk hb q1 q2
  have M0 := Lib.hid (show RgM w w (.slice none 0 0) (.slice none 0 0) (ringL k b 0) (rowL (min 0 (k - 1))) from ⟨Below.refl _ _, by rw [ringL_len]; exact World.ownsRow_nil _ _ _ _, by rw [rowL_len]; simpa [rowL, edCells] using World.ownsRow_nil w w.heap.size 44 3, fun q h => by simp [Value.ownBlock] at h⟩)
  go_loopg [7, 8, 9] k (fun fu v7 v8 c wr => ∃ i : Nat, i + fu = k ∧ c = .int .i64 i ∧ Hid (RgM w wr v7 v8 (ringL k b i) (rowL (min i (k - 1)))))
  case atStart => exact ⟨0, by omega, rfl, M0⟩
  case round =>
    clear M0
    obtain ⟨i, hik, rfl, HM⟩ := hrel
    by_cases hlt : i < k
    · have i1 : (i : Int) < (k : Int) := by omega
      have HRS : Hid (ringL k b (i + 1) = ringL k b i ++ [((i : Int), 0, ((i : Int) + (b : Int)) % (k : Int))]) := Lib.hid (by rw [ringL_succ]; simp)
      have HRL := Lib.hid (ringL_len k b i)
      have hws : wrap64 ((i : Int) + (b : Int)) = (i : Int) + (b : Int) := by unfold wrap64; omega
      by_cases hl2 : i + 1 < k
      · have i2 : (i : Int) + 1 < (k : Int) := by omega
        have HMI : Hid (min i (k - 1) = i) := Lib.hid (by omega)
        have HMJ : Hid (min (i + 1) (k - 1) = i + 1) := Lib.hid (by omega)
        go_wp2_with (first
          | (at_builtin; refine wpList_append_lies (wr.alloc (.cells #[.int .i64 i, .int .i64 0, .int .i64 (((i : Int) + (b : Int)) % (k : Int))] 44)) rfl (.tmp 33) (.tmp 41) 22 rfl w.heap.size 44 i0 (.agg #[.int .i64 0, .int .i64 0, .int .i64 0]) 3 24 Try.underlying22 hi0 hz0 hz1 hz2 rfl (by decide) u7 i (edCells (ringL k b i)) rfl (by have := HM.out.o7.alloc (.cells #[.int .i64 i, .int .i64 0, .int .i64 (((i : Int) + (b : Int)) % (k : Int))] 44); rw [HRL.out] at this; exact this) ⟨wr.heap.size, 0, none⟩ 1 1 [.int .i64 i, .int .i64 0, .int .i64 (((i : Int) + (b : Int)) % (k : Int))] rfl rfl (World.news_of_block (heap_alloc_new _ _)) (by simp [Value.oneCell']) (by omega) (by unfold maxLen; omega) (by omega) (by have := HM.out.below.size; simp; omega) (wr.heap.size + 1) (by simp) ?_; intro g3 cap3 w3 hown3 hgr3 hor3 hlt3; have HM3 := Lib.hid (HM.out.push (e := ((i : Int), 0, ((i : Int) + (b : Int)) % (k : Int))) HRL.out hgr3 hor3 hown3); clear hown3 hgr3 hor3)
          | (at_builtin; refine wpList_append_lies (w3.alloc (.cells #[.int .i64 i, .int .i64 0, .int .i64 ((i : Int) + 1)] 44)) rfl (.tmp 47) (.tmp 52) 22 rfl w.heap.size 44 i0 (.agg #[.int .i64 0, .int .i64 0, .int .i64 0]) 3 24 Try.underlying22 hi0 hz0 hz1 hz2 rfl (by decide) u8 i (edCells (rowL i)) rfl (by have := HM3.out.o8.alloc (.cells #[.int .i64 i, .int .i64 0, .int .i64 ((i : Int) + 1)] 44); rw [HMI.out, rowL_len] at this; exact this) ⟨w3.heap.size, 0, none⟩ 1 1 [.int .i64 i, .int .i64 0, .int .i64 ((i : Int) + 1)] rfl rfl (World.news_of_block (heap_alloc_new _ _)) (by simp [Value.oneCell']) (by omega) (by unfold maxLen; omega) (by omega) (by have := HM3.out.below.size; simp; omega) (w3.heap.size + 1) (by simp) ?_; intro g4 cap4 w4 hown4 hgr4 hor4 hlt4; have HM4 := Lib.hid ((HMI.out ▸ HM3.out.swap : RgM w w3 _ _ (rowL i) _).push (e := ((i : Int), 0, (i : Int) + 1)) (rowL_len i) hgr4 hor4 hown4); clear hown4 hgr4 hor4))
        go_roundg (k - (i + 1))
        case measure => omega
        case rel => exact ⟨i + 1, by omega, by simp, Lib.hid (by rw [HRS.out, HMJ.out, rowL_succ]; exact HM4.out.swap)⟩
      · have i2 : ¬ (i : Int) + 1 < (k : Int) := by omega
        have HMJ : Hid (min (i + 1) (k - 1) = min i (k - 1)) := Lib.hid (by omega)
        go_wp2_with (at_builtin; refine wpList_append_lies (wr.alloc (.cells #[.int .i64 i, .int .i64 0, .int .i64 (((i : Int) + (b : Int)) % (k : Int))] 44)) rfl (.tmp 33) (.tmp 41) 22 rfl w.heap.size 44 i0 (.agg #[.int .i64 0, .int .i64 0, .int .i64 0]) 3 24 Try.underlying22 hi0 hz0 hz1 hz2 rfl (by decide) u7 i (edCells (ringL k b i)) rfl (by have := HM.out.o7.alloc (.cells #[.int .i64 i, .int .i64 0, .int .i64 (((i : Int) + (b : Int)) % (k : Int))] 44); rw [HRL.out] at this; exact this) ⟨wr.heap.size, 0, none⟩ 1 1 [.int .i64 i, .int .i64 0, .int .i64 (((i : Int) + (b : Int)) % (k : Int))] rfl rfl (World.news_of_block (heap_alloc_new _ _)) (by simp [Value.oneCell']) (by omega) (by unfold maxLen; omega) (by omega) (by have := HM.out.below.size; simp; omega) (wr.heap.size + 1) (by simp) ?_; intro g3 cap3 w3 hown3 hgr3 hor3 hlt3; have HM3 := Lib.hid (HM.out.push (e := ((i : Int), 0, ((i : Int) + (b : Int)) % (k : Int))) HRL.out hgr3 hor3 hown3); clear hown3 hgr3 hor3)
        go_roundg (k - (i + 1))
        case measure => omega
        case rel => exact ⟨i + 1, by omega, by simp, Lib.hid (by rw [HRS.out, HMJ.out]; exact HM3.out)⟩
    · obtain rfl : i = k := by omega
      have HM1 : Hid (RgM w wr u7 u8 (ringL i b i) (rowL (i - 1))) := Lib.hid (by have := HM.out; rwa [show min i (i - 1) = i - 1 by omega] at this)
      clear HM
      have hd0 : 0 < Nat.gcd b i := Nat.gcd_pos_of_pos_left i hb1.1
      have hdb : Nat.gcd b i ≤ b := Nat.le_of_dvd hb1.1 (Nat.gcd_dvd_left b i)
      have HDV : Hid (∀ r, i % r = 0 → b % r = 0 → 0 < r → r ≤ Nat.gcd b i) := Lib.hid (fun r h1 h2 _ => Nat.le_of_dvd hd0 (Nat.dvd_gcd (Nat.dvd_of_mod_eq_zero h2) (Nat.dvd_of_mod_eq_zero h1)))
      have HDD : Hid (i % Nat.gcd b i = 0 ∧ b % Nat.gcd b i = 0) := Lib.hid ⟨Nat.mod_eq_zero_of_dvd (Nat.gcd_dvd_right b i), Nat.mod_eq_zero_of_dvd (Nat.gcd_dvd_left b i)⟩
      have GL1 := Lib.hid (ring_groups hk1.1 hk1.2 hb1.1 hb1.2)
      have GL2 := Lib.hid (row_groups hk1.1 hk1.2)
      have GL3 := Lib.hid (closed_groups hk1.1 hk1.2)
      have NG1 : Hid (nodesN (csr i (ringL i b i)) ≤ 100000) := Lib.hid (by rw [csr_nodes (ring_ok hk1.1 hk1.2)]; omega)
      have NG2 : Hid (nodesN (csr i (rowL (i - 1))) ≤ 100000) := Lib.hid (by rw [csr_nodes (row_ok hk1.2)]; omega)
      have NG3 : Hid (nodesN (csr i (rowL (i - 1) ++ [((i : Int) - 1, 0, 0)])) ≤ 100000) := Lib.hid (by rw [csr_nodes (closed_ok hk1.1 hk1.2)]; omega)
      have hB1 := rbuild_any (i : Nat) u7 (ringL i b i) wr (ownsRow_edges HM1.out.o7) (by rw [ringL_len]; omega)
      rw [buildG_ok (ring_ok hk1.1 hk1.2)] at hB1
      have hB2 := fun w' (hw : Below wr.heap.size wr w') => rbuild_any (i : Nat) u8 (rowL (i - 1)) w' ((ownsRow_edges HM1.out.o8).below hw) (by rw [rowL_len]; omega)
      rw [buildG_ok (row_ok hk1.2)] at hB2
      have hB3 := fun v' w' (h : EdgesAt w' v' (rowL (i - 1) ++ [((i : Int) - 1, 0, 0)])) => rbuild_any (i : Nat) v' (rowL (i - 1) ++ [((i : Int) - 1, 0, 0)]) w' h (by rw [List.length_append, rowL_len]; simp; omega)
      rw [buildG_ok (closed_ok hk1.1 hk1.2)] at hB3
      generalize csr i (ringL i b i) = G1 at *
      generalize csr i (rowL (i - 1)) = G2 at *
      generalize csr i (rowL (i - 1) ++ [((i : Int) - 1, 0, 0)]) = G3 at *
      generalize buildE i (ringL i b i) = E1 at *
      generalize buildE i (rowL (i - 1)) = E2 at *
      generalize buildE i (rowL (i - 1) ++ [((i : Int) - 1, 0, 0)]) = E3 at *
      have B1 := Lib.hid hB1
      have B2 := Lib.hid hB2
      have B3 := Lib.hid hB3
      clear hB1 hB2 hB3
      obtain ⟨W, rfl⟩ : ∃ z : World, z = wr := ⟨_, rfl⟩
      go_wp2_with (first
        | (go_at_call_of 22 u7; refine B1.out.mono ?_; rintro e w1 ⟨v1, rfl, hG, hb⟩; obtain ⟨s1, a1, t1, p1, q1, r1, rfl, -⟩ := hG.var; have S1 := Lib.hid (KnSt.intro hb hG); clear hb hG)
        | (go_at_call_of 22 u8; refine (B2.out _ S1.out.below).mono ?_; rintro e w2 ⟨v2, rfl, hG, hb⟩; obtain ⟨s2, a2, t2, p2, q2, r2, rfl, -⟩ := hG.var; have S2 := Lib.hid (KnSt.intro (S1.out.below.trans (hb.mono S1.out.below.size)) hG); have T2 := Lib.hid ((S1.out.more hb).more (balloc w2 (.cells #[.slice s2 G2.S.length p2, .slice a2 G2.A.length q2, .slice t2 G2.T.length r2] 26))); clear hb hG))
      obtain ⟨d, hd⟩ : ∃ d, Nat.gcd b i = d := ⟨_, rfl⟩
      rw [hd] at hd0 hdb HDV HDD GL1
      clear hd
      obtain ⟨W2, hW2⟩ : ∃ z : World, w2.alloc (.cells #[.slice s2 G2.S.length p2, .slice a2 G2.A.length q2, .slice t2 G2.T.length r2] 26) = z := ⟨_, rfl⟩
      rw [hW2] at S2 T2
      try rw [hW2]
      clear hW2
      go_loopg [14] (b - d) (fun fu t14 wr => ∃ r : Nat, d + fu = r ∧ r ≤ b ∧ t14 = .int .i64 r ∧ W2 = wr)
      case atStart => exact ⟨b, by omega, Nat.le_refl _, rfl, rfl⟩
      case round =>
        obtain ⟨r, hr, hrb, rfl, rfl⟩ := hrel
        have hr0 : ¬ (r : Int) = 0 := by omega
        by_cases hA : i % r = 0
        · have m1 : (i : Int) % (r : Int) = 0 := by omega
          by_cases hB : b % r = 0
          · have m2 : (b : Int) % (r : Int) = 0 := by omega
            have hle := HDV.out r hA hB (by omega)
            obtain rfl : r = d := by omega
            have EB : W2.ownsRow W2.heap.size 44 3 (.slice none 0 0) 0 [] := World.ownsRow_nil _ _ _ _
            have O8 := Lib.hid ((ownsRow_edges HM1.out.o8).below T2.out.below)
            have HW2 : Hid ((W2.alloc (.cells #[] 44)).ownsRow W2.heap.size 44 3 (.slice (some ⟨W2.heap.size, 0, none⟩) 0 0) 0 []) := Lib.hid ⟨rfl, .inr ⟨W2.heap.size, 0, #[], rfl, Nat.le_refl _, heap_alloc_new _ _, Nat.le_refl _, by unfold maxLen; omega, rfl, rfl⟩⟩
            have c10 := cell_of_block T2.out.l1 0 _ rfl
            have c11 := cell_of_block T2.out.l1 1 _ rfl
            have c12 := cell_of_block T2.out.l1 2 _ rfl
            clear hA hB EB
            have HIL : Hid ((rowL (i - 1)).length = i - 1) := Lib.hid (rowL_len _)
            go_wp2_with (first
              | (at_builtin; refine wpList_append_edges (W2.alloc (.cells #[] 44)) rfl (.tmp 80) (.tmp 81) rfl W2.heap.size (.slice (some ⟨W2.heap.size, 0, none⟩) 0 0) 0 [] rfl HW2.out u8 (rowL (i - 1)) rfl (O8.out.below (balloc _ _)) (by rw [rowL_len]; omega) (by simp) ?_; intro v5 w5 hown5 hgr5; rw [HIL.out, Nat.zero_add, List.nil_append] at hown5; have HO5 := Lib.hid hown5; have HB5 := Lib.hid (((Below.refl W2.heap.size W2).alloc (Nat.le_refl _) (.cells #[] 44)).grown hgr5 (by simp) (fun k hk => by simp [Value.ownBlock] at hk; omega)); clear hown5 hgr5)
              | (at_builtin; refine wpList_append_lies (w5.alloc (.cells #[.int .i64 ((i : Int) - 1), .int .i64 0, .int .i64 0] 44)) rfl (.tmp 83) (.tmp 87) 22 rfl W2.heap.size 44 i0 (.agg #[.int .i64 0, .int .i64 0, .int .i64 0]) 3 24 Try.underlying22 hi0 hz0 hz1 hz2 rfl (by decide) v5 (i - 1) (edCells (rowL (i - 1))) rfl (HO5.out.alloc _) ⟨w5.heap.size, 0, none⟩ 1 1 [.int .i64 ((i : Int) - 1), .int .i64 0, .int .i64 0] rfl rfl (World.news_of_block (heap_alloc_new _ _)) (by simp [Value.oneCell']) (by omega) (by unfold maxLen; omega) (by omega) (by have := HB5.out.size; simp; omega) (w5.heap.size + 1) (by simp) ?_; intro g6 cap6 w6 hown6 hgr6 hor6 hlt6; have HB6 := Lib.hid (Below.own HB5.out HO5.out hgr6); have HE6 : Hid (EdgesAt w6 (.slice (some ⟨g6, 0, none⟩) (i - 1 + 1) cap6) (rowL (i - 1) ++ [((i : Int) - 1, 0, 0)])) := Lib.hid (ownsRow_edges (base := W2.heap.size) (by rw [List.length_append, rowL_len, edCells_append]; exact hown6)); have HT6 := Lib.hid (T2.out.more HB6.out); have HS6 := Lib.hid (S2.out.more HB6.out); clear hown6 hgr6 hor6 hlt6)
              | (go_at_call_of 22 g6; refine (B3.out _ _ HE6.out).mono ?_; rintro e w7 ⟨v3, rfl, hG, hb⟩; obtain ⟨s3, a3, t3, p3, q3, r3, rfl, -⟩ := hG.var; have U7 := Lib.hid (KnSt.intro (HT6.out.below.trans (hb.mono HT6.out.below.size)) hG); have T7 := Lib.hid ((HT6.out.more hb).more (balloc w7 (.cells #[.slice s3 G3.S.length p3, .slice a3 G3.A.length q3, .slice t3 G3.T.length r3] 26))); have S7 := Lib.hid ((HS6.out.more hb).more (balloc w7 (.cells #[.slice s3 G3.S.length p3, .slice a3 G3.A.length q3, .slice t3 G3.T.length r3] 26))); clear c10 c11 c12; have c10 := cell_of_block T7.out.l1 0 _ rfl; have c11 := cell_of_block T7.out.l1 1 _ rfl; have c12 := cell_of_block T7.out.l1 2 _ rfl; have c20 := cell_of_block S7.out.l1 0 _ rfl; have c21 := cell_of_block S7.out.l1 1 _ rfl; have c22 := cell_of_block S7.out.l1 2 _ rfl; have c30 := cell_of_block U7.out.l1 0 _ rfl; have c31 := cell_of_block U7.out.l1 1 _ rfl; have c32 := cell_of_block U7.out.l1 2 _ rfl; clear hb hG)
              | (go_at_call_of 46 s1; refine (groupsF_ok _ G1 _ T7.out.g1 NG1.out).mono ?_; rintro e x8 ⟨gv, rfl, hR, hb⟩; obtain ⟨ga8, gc8, rfl, -⟩ := hR; rw [GL1.out]; have S8 := Lib.hid (S7.out.more hb); have U8 := Lib.hid (U7.out.more hb); clear c10 c11 c12 c20 c21 c22 c30 c31 c32; have c20 := cell_of_block S8.out.l1 0 _ rfl; have c21 := cell_of_block S8.out.l1 1 _ rfl; have c22 := cell_of_block S8.out.l1 2 _ rfl; clear hb)
              | (go_at_call_of 46 s2; refine (groupsF_ok _ G2 _ S8.out.g1 NG2.out).mono ?_; rintro e x9 ⟨gv, rfl, hR, hb⟩; obtain ⟨ga9, gc9, rfl, -⟩ := hR; rw [GL2.out]; have U9 := Lib.hid (U8.out.more hb); clear c20 c21 c22; have c30 := cell_of_block U9.out.l1 0 _ rfl; have c31 := cell_of_block U9.out.l1 1 _ rfl; have c32 := cell_of_block U9.out.l1 2 _ rfl; clear hb)
              | (go_at_call_of 46 s3; refine (groupsF_ok _ G3 _ U9.out.g1 NG3.out).mono ?_; rintro e x10 ⟨gv, rfl, hR, hb⟩; obtain ⟨ga10, gc10, rfl, -⟩ := hR; rw [GL3.out]; have U10 := Lib.hid (U9.out.more hb); clear c30 c31 c32; clear hb)
              | (go_at_call 41; refine (known17 _).mono ?_; rintro e x11 ⟨rfl, hb⟩; have U11 := Lib.hid (U10.out.more hb); clear hb))
            go_ret
            exact ⟨rfl, HM1.out.below.trans (U11.out.below.mono HM1.out.below.size)⟩
          · have m2 : ¬ (b : Int) % (r : Int) = 0 := by omega
            have hrd : d < r := by
              rcases Nat.lt_or_ge d r with h | h
              · exact h
              · have : r = d := by omega
                subst this; exact absurd HDD.out.2 hB
            go_wp2_with fail
            go_roundg (r - 1 - d)
            case measure => omega
            case rel => exact ⟨r - 1, by omega, by omega, by simp; omega, rfl⟩
        · have m1 : ¬ (i : Int) % (r : Int) = 0 := by omega
          have hrd : d < r := by
            rcases Nat.lt_or_ge d r with h | h
            · exact h
            · have : r = d := by omega
              subst this; exact absurd HDD.out.1 hA
          go_wp2_with fail
          go_roundg (r - 1 - d)
          case measure => omega
          case rel => exact ⟨r - 1, by omega, by omega, by simp; omega, rfl⟩
theorem sccRing (n s : Nat) (w : World) (hn : n ≤ 255) (hs : s ≤ 255) :
    Calls Try.prog 11 #[.int .u8 (n : Nat), .int .u8 (s : Nat)] w fun e w' => e = .returned (.bool true) ∧ Below w.heap.size w w' := ring_walk0 n s _ _ rfl rfl hn hs w
end Go.Proofs.Ytnlaonppgebpoaa
