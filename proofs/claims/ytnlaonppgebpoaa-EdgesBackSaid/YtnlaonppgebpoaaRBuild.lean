/-
  The reference's Build: the walk.
-/
import Derived.Test.YtnlaonppgebpoaaRBuildMem
import Derived.Test.YtnlaonppgebpoaaBuild
import Derived.Deep.RegionLaw
namespace Go.Proofs.Ytnlaonppgebpoaa
open Go.RowKit

set_option maxRecDepth 100000 in
set_option maxHeartbeats 4000000 in
theorem rbuild_bad_n (n : Int) (v : Value) (w : World) (h : ¬ (0 ≤ n ∧ n ≤ 100000)) :
    Calls Try.prog 22 #[.int .i64 n, v] w (GraphErr w ⟨[], [], []⟩ 1) := by
  by_cases h0 : n < 0
  · go_enter Try.func22, Try.ntmps22
    go_wp2_with fail
    refine bodyPost_ret (v := .tuple #[.agg #[.slice none 0 0, .slice none 0 0, .slice none 0 0], .int .i64 1]) (by simp [results, Try.results22, go_sem]) rfl ?_
    exact ⟨_, rfl, graphAt_nil _, balloc w _⟩
  · go_enter Try.func22, Try.ntmps22
    go_wp2_with fail
    refine bodyPost_ret (v := .tuple #[.agg #[.slice none 0 0, .slice none 0 0, .slice none 0 0], .int .i64 1]) (by simp [results, Try.results22, go_sem]) rfl ?_
    exact ⟨_, rfl, graphAt_nil _, balloc w _⟩

set_option maxRecDepth 100000 in
set_option maxHeartbeats 8000000 in
theorem rbuild_ok (n : Nat) (v : Value) (l : List Ed) (w : World) (hn : n ≤ 100000) (h : EdgesAt w v l) (hl : l.length ≤ 1000000) :
    Calls Try.prog 22 #[.int .i64 (n : Nat), v] w (GraphErr w (buildG n l) (buildE n l)) := by
  obtain ⟨a, ac, rfl, ha⟩ := h
  obtain ⟨i0, hi0, hz0, hz1, hz2⟩ := info_parts Try.info3
  have HA := Lib.hid ha
  clear ha
  go_enter Try.func22, Try.ntmps22
  go_wp2_with fail
  go_loopg [6] l.length (fun fu c wr => ∃ k : Nat, k + fu = l.length ∧ c = .int .i64 k ∧ (∀ j, j < k → okE n (l.getD j (0, 0, 0)) = true) ∧ w.alloc (.cells #[.slice none 0 0, .slice none 0 0, .slice none 0 0] 26) = wr)
  case atStart => exact ⟨0, by omega, rfl, fun j hj => by omega, rfl⟩
  case round =>
    obtain ⟨k, hk, rfl, hall, rfl⟩ := hrel
    have HH := Lib.hid hall
    clear hall
    by_cases hlt : k < l.length
    · obtain ⟨b, off, rfl, d1, d2, d3⟩ := HA.out k hlt
      have y1 := bkeep (balloc w (.cells #[.slice none 0 0, .slice none 0 0, .slice none 0 0] 26)) d1
      have y2 := bkeep (balloc w (.cells #[.slice none 0 0, .slice none 0 0, .slice none 0 0] 26)) d2
      have y3 := bkeep (balloc w (.cells #[.slice none 0 0, .slice none 0 0, .slice none 0 0] 26)) d3
      clear d1 d2 d3
      have H1 := Lib.hid (fun hno => buildOk_bad (n := n) hlt hno)
      have hok1 : okE n (l.getD k (0, 0, 0)) = true → ∀ j, j < k + 1 → okE n (l.getD j (0, 0, 0)) = true := fun hy j hj => by
        by_cases hjk : j = k
        · rw [hjk]; exact hy
        · exact HH.out j (by omega)
      have H2 := Lib.hid hok1
      clear hok1
      generalize l.getD k (0, 0, 0) = e at *
      obtain ⟨ef, ea, et⟩ := e
      have HB := Lib.hid (balloc w (.cells #[.slice none 0 0, .slice none 0 0, .slice none 0 0] 26))
      by_cases t1 : ef < 0
      · have E1 := Lib.hid (H1.out (fun hy => by simp [okE] at hy; omega))
        go_wp2_with fail
        refine bodyPost_ret (v := .tuple #[.agg #[.slice none 0 0, .slice none 0 0, .slice none 0 0], .int .i64 1]) (by simp [results, Try.results22, go_sem]) rfl ?_
        exact graphErr_bad E1.out HB.out
      by_cases t2 : ef ≥ n
      · have E1 := Lib.hid (H1.out (fun hy => by simp [okE] at hy; omega))
        go_wp2_with fail
        refine bodyPost_ret (v := .tuple #[.agg #[.slice none 0 0, .slice none 0 0, .slice none 0 0], .int .i64 1]) (by simp [results, Try.results22, go_sem]) rfl ?_
        exact graphErr_bad E1.out HB.out
      by_cases t3 : et < 0
      · have E1 := Lib.hid (H1.out (fun hy => by simp [okE] at hy; omega))
        go_wp2_with fail
        refine bodyPost_ret (v := .tuple #[.agg #[.slice none 0 0, .slice none 0 0, .slice none 0 0], .int .i64 1]) (by simp [results, Try.results22, go_sem]) rfl ?_
        exact graphErr_bad E1.out HB.out
      by_cases t4 : et ≥ n
      · have E1 := Lib.hid (H1.out (fun hy => by simp [okE] at hy; omega))
        go_wp2_with fail
        refine bodyPost_ret (v := .tuple #[.agg #[.slice none 0 0, .slice none 0 0, .slice none 0 0], .int .i64 1]) (by simp [results, Try.results22, go_sem]) rfl ?_
        exact graphErr_bad E1.out HB.out
      by_cases t5 : ea < 0
      · have E1 := Lib.hid (H1.out (fun hy => by simp [okE] at hy; omega))
        go_wp2_with fail
        refine bodyPost_ret (v := .tuple #[.agg #[.slice none 0 0, .slice none 0 0, .slice none 0 0], .int .i64 1]) (by simp [results, Try.results22, go_sem]) rfl ?_
        exact graphErr_bad E1.out HB.out
      · have E2 := Lib.hid (H2.out (by simp [okE]; omega))
        go_wp2_with fail
        go_roundg (gk - 1)
        case measure => omega
        case rel => exact ⟨k + 1, by omega, rfl, E2.out, rfl⟩
    · obtain rfl : gk = 0 := by omega
      obtain rfl : k = l.length := by omega
      have hbo := buildOk_good hn HH.out
      clear HH
      obtain ⟨-, hm⟩ := buildOk_mem hbo
      have h0 : ∀ e ∈ l, 0 ≤ e.1 := fun e he => (hm e he).1
      have H0 := Lib.hid h0
      have HBO := Lib.hid hbo
      have HR0 := Lib.hid (rst_start w)
      have HS0 := Lib.hid (show [(0 : Int)] = rS l 0 by simp [rS, tab, cntLt_zero h0])
      clear hbo hm h0
      go_wp2_with (at_builtin; refine wpList_append_lies (((w.alloc (.cells #[.slice none 0 0, .slice none 0 0, .slice none 0 0] 26)).alloc (.cells #[.slice none 0 0, .slice none 0 0, .slice none 0 0] 26)).alloc (.cells #[.int .i64 0] 3)) rfl (.tmp 66) (.tmp 67) 24 rfl (w.heap.size + 2) 3 i0 (.int .i64 0) 1 8 Try.underlying24 hi0 hz0 hz1 hz2 rfl (by decide) (.slice none 0 0) 0 [] rfl ⟨rfl, .inl ⟨rfl, rfl⟩⟩ ⟨w.heap.size + 1 + 1, 0, none⟩ 1 1 [.int .i64 0] rfl rfl (World.news_of_block (heap_alloc_at _ _ _ (by simp))) (by simp [Value.oneCell']) (by omega) (by unfold maxLen; omega) (by omega) (by simp) (w.heap.size + 1 + 1 + 1) (by simp) ?_; intro g cap w4 hown hgr hor hlt4; obtain ⟨q0, q1, us, q2⟩ := HR0.out.step' 0 (by omega) 0 0 rfl (balloc _ _) hgr (by simpa using hor) hown; have Q2 := Lib.hid q2; clear q2 hgr hown hor)
      clear q0 q1 hlt hlt4
      go_loopg [8] n (fun fu c wr => ∃ m : Nat, m + fu = n ∧ c = .int .i64 m ∧ ∃ vs, RSt w wr vs (rL l m 0))
      case atStart => exact ⟨0, by omega, rfl, us, Q2.out.to HS0.out rfl rfl⟩
      case round =>
        clear Q2
        obtain ⟨m, hm, rfl, vs, hR⟩ := hrel
        by_cases hlt : m < n
        · have HR := Lib.hid hR
          clear hR
          go_wp2_with fail
          obtain ⟨wr1, rfl⟩ : ∃ z : World, z = wr := ⟨_, rfl⟩
          obtain ⟨gk', rfl⟩ : ∃ z : Nat, z = gk := ⟨_, rfl⟩
          go_loopg [9] l.length (fun fu c wr => ∃ r : Nat, r + fu = l.length ∧ c = .int .i64 r ∧ ∃ vs, RSt w wr vs (rL l m r))
          case atStart => exact ⟨0, by omega, rfl, vs, HR.out⟩
          case round =>
            clear HR vs
            obtain ⟨r, hr, rfl, vs, hR⟩ := hrel
            by_cases hlt2 : r < l.length
            · obtain ⟨b, off, rfl, d1, d2, d3⟩ := HA.out r hlt2
              have y1 := bkeep hR.below d1
              have y2 := bkeep hR.below d2
              have hhit := Lib.hid (fun (h : (l.getD r (0, 0, 0)).1 = (m : Int)) => And.intro (rX_hit (p := fun e => e.2.1) hlt2 h) (rX_hit (p := fun e => e.2.2) hlt2 h))
              have hmiss := Lib.hid (fun (h : ¬ (l.getD r (0, 0, 0)).1 = (m : Int)) => And.intro (rX_miss (p := fun e => e.2.1) hlt2 h) (rX_miss (p := fun e => e.2.2) hlt2 h))
              have D3 := Lib.hid d3
              clear d1 d2 d3
              generalize l.getD r (0, 0, 0) = e at *
              obtain ⟨ef, ea, et⟩ := e
              by_cases t1 : ef = (m : Int)
              · subst t1
                obtain ⟨X1, X2⟩ := hhit.out rfl
                have X1 := Lib.hid X1
                have X2 := Lib.hid X2
                have hl1 := rX_len l (fun e => e.2.1) m r H0.out
                have hl2 := rX_len l (fun e => e.2.2) m r H0.out
                obtain ⟨n1, hn1⟩ : ∃ z, (rL l m r 1).length = z := ⟨_, rfl⟩
                obtain ⟨n2, hn2⟩ : ∃ z, (rL l m r 2).length = z := ⟨_, rfl⟩
                have hn1' : n1 ≤ l.length := by rw [← hn1]; exact hl1
                have hn2' : n2 ≤ l.length := by rw [← hn2]; exact hl2
                have N1 := Lib.hid hn1
                have N2 := Lib.hid hn2
                obtain ⟨c0, c1, c2⟩ := hR.cell
                have HR := Lib.hid hR
                have hsz := hR.size
                have M1 : Hid (n1 + 1 ≤ maxLen) := Lib.hid (by unfold maxLen; omega)
                have M2 : Hid ((n1 + 1) * 8 ≤ 140737488355328) := Lib.hid (by omega)
                have M3 : Hid (n2 + 1 ≤ maxLen) := Lib.hid (by unfold maxLen; omega)
                have M4 : Hid ((n2 + 1) * 8 ≤ 140737488355328) := Lib.hid (by omega)
                have b1 : (r : Int) < (l.length : Int) := by omega
                have z1 := bkeep (balloc wr (.cells #[.int .i64 ea] 3)) c1
                have z2 := bkeep (balloc wr (.cells #[.int .i64 ea] 3)) y2
                clear hR hl1 hl2 hn1 hn2 hhit hmiss
                go_wp2_with fail
                go_region_law (refine step_append_lies ((wr.alloc (.cells #[.int .i64 ea] 3)).drew) rfl (.tmp 89) (.tmp 95) 24 rfl (w.heap.size + 2) 3 i0 (.int .i64 0) 1 8 Try.underlying24 hi0 hz0 hz1 hz2 rfl (by decide) (vs 1) n1 (intCells (rL l m r 1)) (by simp [Act.eval]) (N1.out ▸ (HR.out.own 1 (by omega)).alloc _) ⟨wr.heap.size, 0, none⟩ 1 1 [.int .i64 ea] (by simp [Act.eval]) rfl (World.news_of_block (heap_alloc_new wr _)) (by simp [Value.oneCell']) Nat.one_pos M1.out M2.out (by simp; omega) (wr.heap.size + 1) (by simp) ?_; intro g2 cap2 w4 hown2 hgr2 hor2 hlt4; obtain ⟨q0, q1, us, q2⟩ := HR.out.step' 1 (by omega) ea n1 N1.out (balloc wr (.cells #[.int .i64 ea] 3)).drew hgr2 (by simpa using hor2) hown2; have y4 := bkeep q2.below D3.out; obtain ⟨p0, p1, p2⟩ := q2.cell; have Q2 := Lib.hid q2; clear q2 hgr2 hown2 hor2)
                all_goals go_wp2_with fail
                all_goals generalize World.setCell w4 _ _ = w5 at *
                all_goals
                  have z3 := bkeep (balloc w5 (.cells #[.int .i64 et] 3)) p2
                  have z4 := bkeep (balloc w5 (.cells #[.int .i64 et] 3)) y4
                  have hsz5 := Q2.out.size
                  have HO2 : Hid (w5.ownsRow (w.heap.size + 2) 3 1 (us 2) n2 (intCells (rL l m r 2))) := Lib.hid (N2.out ▸ (Q2.out.own 2 (by omega)))
                  clear y1 y2 c0 c1 c2 z1 z2 q0 q1 hsz
                  go_region_law (refine step_append_lies ((w5.alloc (.cells #[.int .i64 et] 3)).drew) rfl (.tmp 99) (.tmp 105) 24 rfl (w.heap.size + 2) 3 i0 (.int .i64 0) 1 8 Try.underlying24 hi0 hz0 hz1 hz2 rfl (by decide) (us 2) n2 (intCells (rL l m r 2)) (by simp [Act.eval]) (HO2.out.alloc _) ⟨w5.heap.size, 0, none⟩ 1 1 [.int .i64 et] (by simp [Act.eval]) rfl (World.news_of_block (heap_alloc_new w5 _)) (by simp [Value.oneCell']) Nat.one_pos M3.out M4.out (by simp; omega) (w5.heap.size + 1) (by simp) ?_; intro g3 cap3 w6 hown3 hgr3 hor3 hlt5; obtain ⟨r0, r1, xs, q3⟩ := Q2.out.step' 2 (by omega) et n2 N2.out (balloc w5 (.cells #[.int .i64 et] 3)).drew hgr3 (by simpa using hor3) hown3; have Q3 := Lib.hid q3; clear q3 hgr3 hown3 hor3)
                all_goals go_wp2_with fail
                all_goals go_roundg (gk - 1)
                all_goals first
                  | omega
                  | exact ⟨r + 1, by omega, by simp, _, Q3.out.to rfl X1.out.symm X2.out.symm⟩
              · have HM := Lib.hid (hmiss.out t1)
                have HR := Lib.hid hR
                have b1 : (r : Int) < (l.length : Int) := by omega
                clear hR hhit hmiss
                go_wp2_with fail
                go_roundg (gk - 1)
                case measure => omega
                case rel => exact ⟨r + 1, by omega, by simp, _, HR.out.to rfl HM.out.1.symm HM.out.2.symm⟩
            · obtain rfl : gk = 0 := by omega
              obtain rfl : r = l.length := by omega
              obtain ⟨c0, c1, c2⟩ := hR.cell
              obtain ⟨a2, cap2, e2⟩ := hR.len (i := 2) (by omega)
              have hq : (rL l m l.length 2).length = cntLt l (m + 1) := by show (rX l _ m l.length).length = _; rw [rX_end, flat_len H0.out]
              have hq0 : (rL l m l.length 0).length = m + 1 := tab_len _ _
              have hqq := cntLt_le l (m + 1)
              rw [e2, hq] at c2
              obtain ⟨q, hqe⟩ : ∃ q, cntLt l (m + 1) = q := ⟨_, rfl⟩
              rw [hqe] at c2 hqq
              have HQ := Lib.hid hqe
              have HQ0 := Lib.hid hq0
              have HR := Lib.hid hR
              have hsz := hR.size
              have z2 := bkeep (balloc wr (.cells #[.int .i64 q] 3)) c2
              have HO : Hid (wr.ownsRow (w.heap.size + 2) 3 1 (vs 0) (m + 1) (intCells (rL l m l.length 0))) := Lib.hid (hq0 ▸ (hR.own 0 (by omega)))
              clear hR e2 hq hq0 hqe
              go_wp2_with (at_builtin; refine wpList_append_lies (wr.alloc (.cells #[.int .i64 q] 3)) rfl (.tmp 109) (.tmp 113) 24 rfl (w.heap.size + 2) 3 i0 (.int .i64 0) 1 8 Try.underlying24 hi0 hz0 hz1 hz2 rfl (by decide) (vs 0) (m + 1) (intCells (rL l m l.length 0)) rfl (HO.out.alloc _) ⟨wr.heap.size, 0, none⟩ 1 1 [.int .i64 q] rfl rfl (World.news_of_block (heap_alloc_new wr _)) (by simp [Value.oneCell']) (by omega) (by unfold maxLen; omega) (by omega) (by simp; omega) (wr.heap.size + 1) (by simp) ?_; intro g3 cap3 w6 hown3 hgr3 hor3 hlt5; obtain ⟨r0, r1, xs, q3⟩ := HR.out.step' 0 (by omega) q (m + 1) HQ0.out (balloc wr (.cells #[.int .i64 q] 3)) hgr3 (by simpa using hor3) hown3; have Q3 := Lib.hid q3; clear q3 hgr3 hown3 hor3)
              go_roundg (gk' - 1)
              case measure => omega
              case rel => exact ⟨m + 1, by omega, by simp, _, Q3.out.to (by rw [← HQ.out]; exact (rS_succ l m).symm) ((rX_end l _ m).trans (rX_zero l _ (m + 1)).symm) ((rX_end l _ m).trans (rX_zero l _ (m + 1)).symm)⟩
        · obtain rfl : gk = 0 := by omega
          obtain rfl : m = n := by omega
          obtain ⟨c0, c1, c2⟩ := hR.cell
          have r0 := hR.rcell 0 (by omega)
          have r1 := hR.rcell 1 (by omega)
          have r2 := hR.rcell 2 (by omega)
          have g0 := hR.rfree 0
          have g1 := hR.rfree 1
          have g2 := hR.rfree 2
          have hret := hR.ret (by show (rS l m).length ≤ _; unfold rS; rw [tab_len]; omega) (Nat.le_trans (rX_len l _ m 0 H0.out) hl) (Nat.le_trans (rX_len l _ m 0 H0.out) hl) (vs 0) (vs 1) (vs 2)
          have e : (⟨rL l m 0 0, rL l m 0 1, rL l m 0 2⟩ : Gr) = csr m l := by
            show (⟨rS l m, rX l _ m 0, rX l _ m 0⟩ : Gr) = _
            rw [rX_zero, rX_zero]; rfl
          rw [e] at hret
          obtain ⟨a0, k0, e0⟩ := hR.len (i := 0) (by omega)
          obtain ⟨a1, k1, e1⟩ := hR.len (i := 1) (by omega)
          obtain ⟨a2, k2, e2⟩ := hR.len (i := 2) (by omega)
          rw [e0, e1, e2] at hret
          rw [e0] at c0
          rw [e1] at c1
          rw [e2] at c2
          clear e0 e1 e2
          generalize (rL l m 0 0).length = n0 at *
          generalize (rL l m 0 1).length = n1 at *
          generalize (rL l m 0 2).length = n2 at *
          have HT := Lib.hid hret
          clear hret hR e
          go_wp2_with fail
          obtain ⟨q1, q2, q3, q4, q5⟩ := HT.out
          refine bodyPost_ret (v := .tuple #[.agg #[.slice a0 n0 k0, .slice a1 n1 k1, .slice a2 n2 k2], .int .i64 0]) (by simp [results, Try.results22, go_sem, q2, q3, q4]) rfl ?_
          exact graphErr_good HBO.out q1 q5
/-- Build of whatever number -/
theorem build_any (n : Int) (v : Value) (l : List Ed) (w : World) (h : EdgesAt w v l) (hl : l.length ≤ 1000000) : Calls Try.prog 21 #[.int .i64 n, v] w (GraphErr w (buildG n l) (buildE n l)) := by
  by_cases hn : 0 ≤ n ∧ n ≤ 100000
  · obtain ⟨k, rfl⟩ : ∃ k : Nat, n = (k : Int) := ⟨n.toNat, by omega⟩
    exact build_ok k v l w (by omega) h hl
  · have hb : buildOk n l = false := by
      cases e : buildOk n l
      · rfl
      · simp only [buildOk, Bool.and_eq_true, decide_eq_true_eq] at e; exact (hn e.1).elim
    rw [buildG_bad hb, show buildE n l = 1 by simp [buildE, hb]]
    exact build_bad_n n v w hn
theorem rbuild_any (n : Int) (v : Value) (l : List Ed) (w : World) (h : EdgesAt w v l) (hl : l.length ≤ 1000000) : Calls Try.prog 22 #[.int .i64 n, v] w (GraphErr w (buildG n l) (buildE n l)) := by
  by_cases hn : 0 ≤ n ∧ n ≤ 100000
  · obtain ⟨k, rfl⟩ : ∃ k : Nat, n = (k : Int) := ⟨n.toNat, by omega⟩
    exact rbuild_ok k v l w (by omega) h hl
  · have hb : buildOk n l = false := by
      cases e : buildOk n l
      · rfl
      · simp only [buildOk, Bool.and_eq_true, decide_eq_true_eq] at e; exact (hn e.1).elim
    rw [buildG_bad hb, show buildE n l = 1 by simp [buildE, hb]]
    exact rbuild_bad_n n v w hn
end Go.Proofs.Ytnlaonppgebpoaa
