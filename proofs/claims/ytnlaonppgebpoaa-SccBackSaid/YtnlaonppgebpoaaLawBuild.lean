/-
  spinnakerlaw14.EdgesBuild: the walk. (Written by gen_lawbuild.py.)
-/
import Derived.Test.YtnlaonppgebpoaaKnown14
namespace Go.Proofs.Ytnlaonppgebpoaa
open Go.RowKit

theorem edges_src {w : World} {b off : Nat} {l : List Ed} (h : ∀ j, j < l.length → w.cell? ⟨b, off + j * 3, none⟩ = some (.int .i64 (l.getD j (0, 0, 0)).1) ∧ w.cell? ⟨b, off + j * 3 + 1, none⟩ = some (.int .i64 (l.getD j (0, 0, 0)).2.1) ∧ w.cell? ⟨b, off + j * 3 + 2, none⟩ = some (.int .i64 (l.getD j (0, 0, 0)).2.2))
    (j : Nat) (u : Value) (hu : (edCells l)[j]? = some u) : w.cell? ((⟨b, off, none⟩ : Addr).add j) = some u := by
  have hj : j < l.length * 3 := by rw [← edCells_len]; exact (List.getElem?_eq_some_iff.1 hu).1
  obtain ⟨h1, h2, h3⟩ := h (j / 3) (by omega)
  obtain ⟨e1, e2, e3⟩ := edCells_get l (j / 3) (by omega)
  rw [Go.WideShapes.add_plain]
  rcases (by omega : j = j / 3 * 3 ∨ j = j / 3 * 3 + 1 ∨ j = j / 3 * 3 + 2) with e | e | e
  · rw [← e] at e1
    rw [e1] at hu
    cases hu
    rw [← h1]; congr 2; omega
  · rw [← e] at e2
    rw [e2] at hu
    cases hu
    rw [← h2]; congr 2; omega
  · rw [← e] at e3
    rw [e3] at hu
    cases hu
    rw [← h3]; congr 2; omega
theorem edCells_one {l : List Ed} (u : Value) (hu : u ∈ edCells l) : u.oneCell' = true := by
  simp only [edCells, List.mem_flatMap] at hu
  obtain ⟨e, -, he⟩ := hu
  simp at he
  rcases he with rfl | rfl | rfl <;> rfl
theorem edgesAt_zero {l : List Ed} (h : l.length = 0) (w : World) (a : Option Addr) (cap : Nat) : EdgesAt w (.slice a 0 cap) l := ⟨a, cap, by rw [h], fun j hj => by omega⟩

set_option maxRecDepth 100000 in
set_option maxHeartbeats 8000000 in
theorem lawBuild (n : Int) (v : Value) (l : List Ed) (w : World) (h : EdgesAt w v l) (hl : l.length ≤ 9223372036854775807) :
    Calls Try.prog 3 #[.int .i64 n, v] w fun e w' => e = .returned (.bool true) ∧ Below w.heap.size w w' := by
  have HE := Lib.hid h
  obtain ⟨a, cap, rfl, ha⟩ := h
  by_cases h1 : 200 < n
  · clear ha
    go_enter Try.func3, Try.ntmps3
    go_wp2_with (first
      | (go_at_call 20; refine (known14 _).mono ?_; rintro e w5 ⟨rfl, hb⟩))
    go_ret
    exact ⟨rfl, hb⟩
  by_cases h2 : 400 < l.length
  · have h3 : (400 : Int) < (l.length : Int) := by omega
    clear ha
    go_enter Try.func3, Try.ntmps3
    go_wp2_with (first
      | (go_at_call 20; refine (known14 _).mono ?_; rintro e w5 ⟨rfl, hb⟩))
    go_ret
    exact ⟨rfl, hb⟩
  have HL2 : Hid (l.length ≤ 1000000) := Lib.hid (by omega)
  by_cases hz : l = []
  · subst hz
    clear ha h2
    generalize hlz : ([] : List Ed) = l at *
    have HZ := Lib.hid hlz
    have hl0 : l.length = 0 := by rw [← hlz]; rfl
    rw [hl0] at HE ⊢
    have B0 := Lib.hid (balloc w (.cells #[] 44))
    have OE := Lib.hid (edgesAt_zero hl0 (w.alloc (.cells #[] 44)) (some ⟨w.heap.size, 0, none⟩) 0)
    clear hlz hl0 hl
    rcases a with _ | ad
    all_goals
      go_enter Try.func3, Try.ntmps3
      go_wp2_with (first
      | (go_at_call 21; refine (build_any _ _ l _ OE.out HL2.out).mono ?_; rintro e w1 ⟨v1, rfl, hG, hb⟩; obtain ⟨s1, a1, t1, p1, q1, r1, rfl, -⟩ := hG.var; have B1 := Lib.hid (B0.out.trans (hb.mono B0.out.size)); have E1 := Lib.hid (OE.out.below hb); have S1 := Lib.hid (KnSt.intro B1.out hG); clear hb hG)
      | (go_at_call 22; refine (rbuild_any _ _ l _ (HE.out.below S1.out.below) HL2.out).mono ?_; rintro e w2 ⟨v2, rfl, hG, hb⟩; obtain ⟨s2, a2, t2, p2, q2, r2, rfl, -⟩ := hG.var; have E2 := Lib.hid (((E1.out.below (balloc _ _)).below hb).below (balloc w2 (.cells #[.slice s2 (buildG n l).S.length p2, .slice a2 (buildG n l).A.length q2, .slice t2 (buildG n l).T.length r2] 26))); have S2 := Lib.hid ((S1.out.more hb).more (balloc w2 (.cells #[.slice s2 (buildG n l).S.length p2, .slice a2 (buildG n l).A.length q2, .slice t2 (buildG n l).T.length r2] 26))); have T2 := Lib.hid (KnSt.intro (S1.out.more hb).below hG); have c0 := cell_of_block S2.out.l1 0 _ rfl; have c1 := cell_of_block S2.out.l1 1 _ rfl; have c2 := cell_of_block S2.out.l1 2 _ rfl; have d0 := cell_of_block T2.out.l1 0 _ rfl; have d1 := cell_of_block T2.out.l1 1 _ rfl; have d2 := cell_of_block T2.out.l1 2 _ rfl; clear hb hG)
      | (go_at_call 23; refine (graphs_same _ _ _ _ S2.out.g1 T2.out.g1).mono ?_; rintro e w3 ⟨rfl, hb⟩; have B3 := Lib.hid (S2.out.below.trans (hb.mono S2.out.below.size)); have E3 := Lib.hid (E2.out.below hb); clear hb)
      | (go_at_call 24; refine (edges_same _ _ l _ E3.out (HE.out.below B3.out) HL2.out).mono ?_; rintro e w4 ⟨rfl, hb⟩; have B4 := Lib.hid (B3.out.trans (hb.mono B3.out.size)); clear hb)
      | (go_at_call 20; refine (known14 _).mono ?_; rintro e w5 ⟨rfl, hb⟩; have B5 := Lib.hid (B4.out.trans (hb.mono B4.out.size)); clear hb))
      go_ret
      exact ⟨rfl, B5.out⟩
  · have hp : 0 < l.length := List.length_pos_iff.2 hz
    obtain ⟨i0, hi0, hz0, hz1, hz2⟩ := info_parts Try.info44
    obtain ⟨b, off, rfl, -⟩ := ha 0 hp
    have hc : ∀ j, j < l.length → w.cell? ⟨b, off + j * 3, none⟩ = some (.int .i64 (l.getD j (0, 0, 0)).1) ∧ w.cell? ⟨b, off + j * 3 + 1, none⟩ = some (.int .i64 (l.getD j (0, 0, 0)).2.1) ∧ w.cell? ⟨b, off + j * 3 + 2, none⟩ = some (.int .i64 (l.getD j (0, 0, 0)).2.2) := fun j hj => by
      obtain ⟨b', off', e, c1, c2, c3⟩ := ha j hj
      cases e
      exact ⟨c1, c2, c3⟩
    have HC := Lib.hid (fun j u hu => bkeep (balloc w (.cells #[] 44)) (edges_src hc j u hu))
    obtain ⟨m, hm⟩ : ∃ m, l.length = m := ⟨_, rfl⟩
    have HM := Lib.hid hm
    rw [hm] at HE hp h2 ⊢
    have h3 : ¬ (400 : Int) < (m : Int) := by omega
    have hm0 : ¬ m = 0 := by omega
    clear ha hc hm hz hl
    go_enter Try.func3, Try.ntmps3
    go_wp2_with (first
      | (at_builtin; refine wpList_append_lies (w.alloc (.cells #[] 44)) rfl (.tmp 18) (.tmp 19) 22 rfl w.heap.size 44 i0 (.agg #[.int .i64 0, .int .i64 0, .int .i64 0]) 3 24 Try.underlying22 hi0 hz0 hz1 hz2 rfl (by decide) (.slice (some ⟨w.heap.size, 0, none⟩) 0 0) 0 [] rfl ⟨rfl, .inr ⟨w.heap.size, 0, #[], rfl, Nat.le_refl _, heap_alloc_new w _, Nat.le_refl _, by decide, rfl, rfl⟩⟩ ⟨b, off, none⟩ m cap (edCells l) rfl (by rw [edCells_len, HM.out]) HC.out (fun u hu => edCells_one u hu) hp (by unfold maxLen; omega) (by omega) (by simp) (w.heap.size + 1) (by simp) ?_; intro g2 cap2 w4 hown hgr hor hlt; have B0 := Lib.hid (((balloc w (.cells #[] 44)).grown hgr (by simp) (fun k hk => by simp [Value.ownBlock] at hk; omega))); have OE : Hid (EdgesAt w4 (.slice (some ⟨g2, 0, none⟩) m cap2) l) := Lib.hid (by rw [Nat.zero_add] at hown; exact ownsRow_edges (by rw [HM.out]; exact hown)); clear hown hgr hor)
      | (first
      | (go_at_call 21; refine (build_any _ _ l _ OE.out HL2.out).mono ?_; rintro e w1 ⟨v1, rfl, hG, hb⟩; obtain ⟨s1, a1, t1, p1, q1, r1, rfl, -⟩ := hG.var; have B1 := Lib.hid (B0.out.trans (hb.mono B0.out.size)); have E1 := Lib.hid (OE.out.below hb); have S1 := Lib.hid (KnSt.intro B1.out hG); clear hb hG)
      | (go_at_call 22; refine (rbuild_any _ _ l _ (HE.out.below S1.out.below) HL2.out).mono ?_; rintro e w2 ⟨v2, rfl, hG, hb⟩; obtain ⟨s2, a2, t2, p2, q2, r2, rfl, -⟩ := hG.var; have E2 := Lib.hid (((E1.out.below (balloc _ _)).below hb).below (balloc w2 (.cells #[.slice s2 (buildG n l).S.length p2, .slice a2 (buildG n l).A.length q2, .slice t2 (buildG n l).T.length r2] 26))); have S2 := Lib.hid ((S1.out.more hb).more (balloc w2 (.cells #[.slice s2 (buildG n l).S.length p2, .slice a2 (buildG n l).A.length q2, .slice t2 (buildG n l).T.length r2] 26))); have T2 := Lib.hid (KnSt.intro (S1.out.more hb).below hG); have c0 := cell_of_block S2.out.l1 0 _ rfl; have c1 := cell_of_block S2.out.l1 1 _ rfl; have c2 := cell_of_block S2.out.l1 2 _ rfl; have d0 := cell_of_block T2.out.l1 0 _ rfl; have d1 := cell_of_block T2.out.l1 1 _ rfl; have d2 := cell_of_block T2.out.l1 2 _ rfl; clear hb hG)
      | (go_at_call 23; refine (graphs_same _ _ _ _ S2.out.g1 T2.out.g1).mono ?_; rintro e w3 ⟨rfl, hb⟩; have B3 := Lib.hid (S2.out.below.trans (hb.mono S2.out.below.size)); have E3 := Lib.hid (E2.out.below hb); clear hb)
      | (go_at_call 24; refine (edges_same _ _ l _ E3.out (HE.out.below B3.out) HL2.out).mono ?_; rintro e w4 ⟨rfl, hb⟩; have B4 := Lib.hid (B3.out.trans (hb.mono B3.out.size)); clear hb)
      | (go_at_call 20; refine (known14 _).mono ?_; rintro e w5 ⟨rfl, hb⟩; have B5 := Lib.hid (B4.out.trans (hb.mono B4.out.size)); clear hb)))
    go_ret
    exact ⟨rfl, B5.out⟩
end Go.Proofs.Ytnlaonppgebpoaa
