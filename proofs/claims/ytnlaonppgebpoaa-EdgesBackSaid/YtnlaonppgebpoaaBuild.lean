/-
  edges.Build: the walk.
-/
import Derived.Test.YtnlaonppgebpoaaCmp
import Derived.Test.YtnlaonppgebpoaaBuildMem
import Derived.Deep.OwnRows
import Derived.Laws.CopyOwn
import Derived.Deep.DeepCutAuto
namespace Go.Proofs.Ytnlaonppgebpoaa
open Go.RowKit
theorem Try.info3 : (Try.prog.info? 3).map (fun i => (i.zero, i.size, i.bytes)) = some (some (.int .i64 0), 1, 8) := by kernel_rfl

set_option maxRecDepth 100000 in
set_option maxHeartbeats 4000000 in
theorem build_bad_n (n : Int) (v : Value) (w : World) (h : ¬ (0 ≤ n ∧ n ≤ 100000)) :
    Calls Try.prog 21 #[.int .i64 n, v] w (GraphErr w ⟨[], [], []⟩ 1) := by
  by_cases h0 : n < 0
  · go_enter Try.func21, Try.ntmps21
    go_wp2_with fail
    refine bodyPost_ret (v := .tuple #[.agg #[.slice none 0 0, .slice none 0 0, .slice none 0 0], .int .i64 1]) (by simp [results, Try.results21, go_sem]) rfl ?_
    exact ⟨_, rfl, graphAt_nil _, balloc w _⟩
  · go_enter Try.func21, Try.ntmps21
    go_wp2_with fail
    refine bodyPost_ret (v := .tuple #[.agg #[.slice none 0 0, .slice none 0 0, .slice none 0 0], .int .i64 1]) (by simp [results, Try.results21, go_sem]) rfl ?_
    exact ⟨_, rfl, graphAt_nil _, balloc w _⟩

set_option maxRecDepth 100000 in
set_option maxHeartbeats 8000000 in
theorem build_ok (n : Nat) (v : Value) (l : List Ed) (w : World) (hn : n ≤ 100000) (h : EdgesAt w v l) (hl : l.length ≤ 1000000) :
    Calls Try.prog 21 #[.int .i64 (n : Nat), v] w (GraphErr w (buildG n l) (buildE n l)) := by
  obtain ⟨a, ac, rfl, ha⟩ := h
  have HA := Lib.hid ha
  clear ha
  go_enter Try.func21, Try.ntmps21
  go_wp2_with (at_make; refine wpList_make_one _ rfl (.tmp 23) (.tmp 23) 24 rfl 3 (.int .i64 0) rfl 8 Try.underlying24 Try.info3 .i64 .i64 ((n : Int) + 1) ((n : Int) + 1) (n + 1) rfl rfl (by simp) (by simp) (by omega) (by unfold maxLen; omega) ?_; intro w1 hh1 hb1 hlt1)
  have hst : BSt w w1 (st1 n (l.take 0)) := ⟨(balloc w _).trans (hb1.mono (by simp)), bheap hb1 (heap_alloc_new w _), by rw [List.take_zero, st1_nil, ints_replicate]; simpa using hh1⟩
  rw [World.size_alloc] at hh1
  have e1 : (w.alloc (.cells #[.slice none 0 0, .slice none 0 0, .slice none 0 0] 26)).heap.size = w.heap.size + 1 := World.size_alloc _ _
  try rw [e1]
  clear hh1 hb1 hlt1 e1
  go_loopg [8, 27] l.length (fun fu _ c wr => ∃ k : Nat, k + fu = l.length ∧ c = .int .i64 k ∧ (∀ j, j < k → okE n (l.getD j (0, 0, 0)) = true) ∧ BSt w wr (st1 n (l.take k)))
  case atStart => exact ⟨0, by omega, rfl, fun j hj => by omega, hst⟩
  case round =>
    clear hst
    obtain ⟨k, hk, rfl, hall, hB⟩ := hrel
    have HH := Lib.hid hall
    clear hall
    by_cases hlt : k < l.length
    · obtain ⟨b, off, rfl, d1, d2, d3⟩ := HA.out k hlt
      have y1 := bkeep hB.below d1
      have y2 := bkeep hB.below d2
      have y3 := bkeep hB.below d3
      clear d1 d2 d3
      have hbad := fun hno => buildOk_bad (n := n) hlt hno
      have hok1 : okE n (l.getD k (0, 0, 0)) = true → ∀ j, j < k + 1 → okE n (l.getD j (0, 0, 0)) = true := fun hy j hj => by
        by_cases hjk : j = k
        · rw [hjk]; exact hy
        · exact HH.out j (by omega)
      have hstep := fun (f : Nat) (hf : (l.getD k (0, 0, 0)).1 = (f : Int)) (hfn : f < n) => st1_step (n := n) hlt hf hfn
      have H1 := Lib.hid hbad
      have H2 := Lib.hid hok1
      have H3 := Lib.hid hstep
      clear hbad hok1 hstep
      generalize l.getD k (0, 0, 0) = e at *
      obtain ⟨ef, ea, et⟩ := e
      have hb2 := balloc wr (.cells #[.int .i64 ef, .int .i64 ea, .int .i64 et] 44)
      have hB2 := hB.more hb2
      have hsz := hB.size
      have r0 := hB2.rcell 0 (by omega)
      have r1 := hB2.rcell 1 (by omega)
      have r2 := hB2.rcell 2 (by omega)
      have f0 := hB2.rfree 0
      have f1 := hB2.rfree 1
      have f2 := hB2.rfree 2
      by_cases t1 : ef < 0
      · have E1 := Lib.hid (H1.out (fun hy => by simp [okE] at hy; omega))
        have HB := Lib.hid hB2
        clear hb2 hB2
        go_wp2_with fail
        obtain ⟨q1, q2, q3, q4⟩ := HB.out.ret (.slice none 0 0) (.slice none 0 0) (.slice none 0 0)
        refine bodyPost_ret (v := .tuple #[.agg #[.slice none 0 0, .slice none 0 0, .slice none 0 0], .int .i64 1]) (by simp [results, Try.results21, go_sem, q2, q3, q4]) rfl ?_
        exact graphErr_bad E1.out q1
      by_cases t2 : ef ≥ n
      · have E1 := Lib.hid (H1.out (fun hy => by simp [okE] at hy; omega))
        have HB := Lib.hid hB2
        clear hb2 hB2
        go_wp2_with fail
        obtain ⟨q1, q2, q3, q4⟩ := HB.out.ret (.slice none 0 0) (.slice none 0 0) (.slice none 0 0)
        refine bodyPost_ret (v := .tuple #[.agg #[.slice none 0 0, .slice none 0 0, .slice none 0 0], .int .i64 1]) (by simp [results, Try.results21, go_sem, q2, q3, q4]) rfl ?_
        exact graphErr_bad E1.out q1
      by_cases t3 : et < 0
      · have E1 := Lib.hid (H1.out (fun hy => by simp [okE] at hy; omega))
        have HB := Lib.hid hB2
        clear hb2 hB2
        go_wp2_with fail
        obtain ⟨q1, q2, q3, q4⟩ := HB.out.ret (.slice none 0 0) (.slice none 0 0) (.slice none 0 0)
        refine bodyPost_ret (v := .tuple #[.agg #[.slice none 0 0, .slice none 0 0, .slice none 0 0], .int .i64 1]) (by simp [results, Try.results21, go_sem, q2, q3, q4]) rfl ?_
        exact graphErr_bad E1.out q1
      by_cases t4 : et ≥ n
      · have E1 := Lib.hid (H1.out (fun hy => by simp [okE] at hy; omega))
        have HB := Lib.hid hB2
        clear hb2 hB2
        go_wp2_with fail
        obtain ⟨q1, q2, q3, q4⟩ := HB.out.ret (.slice none 0 0) (.slice none 0 0) (.slice none 0 0)
        refine bodyPost_ret (v := .tuple #[.agg #[.slice none 0 0, .slice none 0 0, .slice none 0 0], .int .i64 1]) (by simp [results, Try.results21, go_sem, q2, q3, q4]) rfl ?_
        exact graphErr_bad E1.out q1
      by_cases t5 : ea < 0
      · have E1 := Lib.hid (H1.out (fun hy => by simp [okE] at hy; omega))
        have HB := Lib.hid hB2
        clear hb2 hB2
        go_wp2_with fail
        obtain ⟨q1, q2, q3, q4⟩ := HB.out.ret (.slice none 0 0) (.slice none 0 0) (.slice none 0 0)
        refine bodyPost_ret (v := .tuple #[.agg #[.slice none 0 0, .slice none 0 0, .slice none 0 0], .int .i64 1]) (by simp [results, Try.results21, go_sem, q2, q3, q4]) rfl ?_
        exact graphErr_bad E1.out q1
      · obtain ⟨f, rfl⟩ : ∃ f : Nat, ef = (f : Int) := ⟨ef.toNat, by omega⟩
        have E2 := Lib.hid (H2.out (by simp [okE]; omega))
        obtain ⟨g1, g2⟩ := H3.out f rfl (by omega)
        have hcl : cnt (l.take k) f ≤ 1000000 := Nat.le_trans (cnt_le (l.take k) f) (by rw [List.length_take]; omega)
        have hc := hB2.cell (f + 1) (by rw [st1, tab_len]; omega)
        rw [g1] at hc
        have hfr := hB2.free (f + 1)
        have HB := Lib.hid (by have := hB.set (f + 1) ((cnt (l.take k) f : Int) + 1); rw [g2] at this; exact this.more (balloc _ (.cells #[.int .i64 f, .int .i64 ea, .int .i64 et] 44)))
        clear hb2 hB2 g1 g2
        go_wp2_with fail
        go_roundg (gk - 1)
        case measure => omega
        case rel => exact ⟨k + 1, by omega, rfl, E2.out, HB.out⟩
    · obtain rfl : gk = 0 := by omega
      obtain rfl : k = l.length := by omega
      have hbo := buildOk_good hn HH.out
      clear HH
      rw [List.take_length] at hB
      have hoks : ∀ e ∈ l, 0 ≤ e.1 ∧ e.1 < (n : Int) := fun e he => by
        simp only [buildOk, Bool.and_eq_true, List.all_eq_true, okE, decide_eq_true_eq] at hbo
        have := hbo.2 e he; omega
      have h0 : ∀ e ∈ l, 0 ≤ e.1 := fun e he => (hoks e he).1
      have hln : ∀ e ∈ l, e.1 < (n : Int) := fun e he => (hoks e he).2
      clear hoks
      rw [st2_zero n h0] at hB
      have HO := Lib.hid hbo
      have H0 := Lib.hid h0
      have HN := Lib.hid hln
      clear h0 hln hbo
      obtain ⟨wr1, rfl⟩ : ∃ z : World, z = wr := ⟨_, rfl⟩
      go_wp2_with fail
      go_loopg [9, 67] n (fun fu _ c wr => ∃ i : Nat, i + fu = n ∧ c = .int .i64 i ∧ BSt w wr (st2 n l i))
      case atStart => exact ⟨0, by omega, rfl, hB⟩
      case round =>
        clear hB
        obtain ⟨i, hi, rfl, hB⟩ := hrel
        by_cases hlt : i < n
        · obtain ⟨g1, g2, g3⟩ := st2_step (n := n) (l := l) hlt
          have c1 := hB.cell (i + 1) (by rw [st2, tab_len]; omega)
          have c2 := hB.cell i (by rw [st2, tab_len]; omega)
          have hfr := hB.free (i + 1)
          rw [g1] at c1
          rw [g2] at c2
          have HB := Lib.hid (by have := hB.drew.set (i + 1) ((cnt l i : Int) + (cntLt l i : Int)); rw [g3] at this; exact this)
          clear hB g1 g2 g3
          have k1 := cnt_le l i
          have k2 := cntLt_le l i
          have e1 : IntKind.i64.wrap ((i : Int) + 1) = ((i + 1 : Nat) : Int) := by rw [IntWalk.i64_in _ (by omega)]; simp
          have e2 : IntKind.i64.wrap ((cnt l i : Int) + (cntLt l i : Int)) = (cnt l i : Int) + (cntLt l i : Int) := by rw [IntWalk.i64_in _ (by omega)]
          have b1 : (i : Int) + 1 < (n : Int) + 1 := by omega
          have b2 : (i : Int) < (n : Int) + 1 := by omega
          have b3 : (i : Int) < (n : Int) := by omega
          have b4 : (0 : Int) ≤ (i : Int) + 1 := by omega
          go_wp2_with fail
          refine region_tail 11 (by kernel_rfl) (by kernel_rfl) ?_
          simp only [List.take_succ_cons, List.take_zero, List.drop_succ_cons, List.drop_zero]
          repeat still_step
          refine wpStill_nil ?_
          clear e1
          go_wp2_with fail
          go_roundg (gk - 1)
          case measure => omega
          case rel => exact ⟨i + 1, by omega, rfl, HB.out⟩
        · obtain rfl : gk = 0 := by omega
          obtain rfl : i = n := by omega
          rw [st2_end] at hB
          obtain ⟨wr2, rfl⟩ : ∃ z : World, z = wr := ⟨_, rfl⟩
          have hmk := run_make_row' (P := Try.prog) 24 3 (.int .i64 0) 8 Try.underlying24 Try.info3 rfl .i64 .i64 l.length (by omega) (by omega)
          have HB := Lib.hid hB
          clear hB
          go_wp2_with fail
          go_cut [10] (fun t10 wx => ∃ ba bt bg : Nat, t10 = .pointer (some ⟨bg, 0, none⟩) ∧ CSt w wx i (csr i l).S (List.replicate l.length 0) (List.replicate l.length 0) ba bt bg)
          case first =>
            go_region
            all_goals go_wp2_with fail
            all_goals go_meet
            all_goals first
              | exact cst_intro wr2.heap.size (wr2.heap.size + 1) (wr2.heap.size + 1 + 1) HB.out (three_heap wr2 _ _ _).2.2.2.drew (three_heap wr2 _ _ _).1 (three_heap wr2 _ _ _).2.1 (three_heap wr2 _ _ _).2.2.1 (by omega) (by omega) (by omega) (by omega) (by omega) (by omega)
              | exact cst_intro wr2.heap.size (wr2.heap.size + 1 + 1) (wr2.heap.size + 1) HB.out (three_heap wr2 _ _ _).2.2.2.drew (three_heap wr2 _ _ _).1 (three_heap wr2 _ _ _).2.2.1 (three_heap wr2 _ _ _).2.1 (by omega) (by omega) (by omega) (by omega) (by omega) (by omega)
              | exact cst_intro (wr2.heap.size + 1) wr2.heap.size (wr2.heap.size + 1 + 1) HB.out (three_heap wr2 _ _ _).2.2.2.drew (three_heap wr2 _ _ _).2.1 (three_heap wr2 _ _ _).1 (three_heap wr2 _ _ _).2.2.1 (by omega) (by omega) (by omega) (by omega) (by omega) (by omega)
              | exact cst_intro (wr2.heap.size + 1) (wr2.heap.size + 1 + 1) wr2.heap.size HB.out (three_heap wr2 _ _ _).2.2.2.drew (three_heap wr2 _ _ _).2.1 (three_heap wr2 _ _ _).2.2.1 (three_heap wr2 _ _ _).1 (by omega) (by omega) (by omega) (by omega) (by omega) (by omega)
              | exact cst_intro (wr2.heap.size + 1 + 1) wr2.heap.size (wr2.heap.size + 1) HB.out (three_heap wr2 _ _ _).2.2.2.drew (three_heap wr2 _ _ _).2.2.1 (three_heap wr2 _ _ _).1 (three_heap wr2 _ _ _).2.1 (by omega) (by omega) (by omega) (by omega) (by omega) (by omega)
              | exact cst_intro (wr2.heap.size + 1 + 1) (wr2.heap.size + 1) wr2.heap.size HB.out (three_heap wr2 _ _ _).2.2.2.drew (three_heap wr2 _ _ _).2.2.1 (three_heap wr2 _ _ _).2.1 (three_heap wr2 _ _ _).1 (by omega) (by omega) (by omega) (by omega) (by omega) (by omega)
          case rest =>
            clear hmk HB
            obtain ⟨ba, bt, bg, rfl, hC⟩ := hcut
            have hsl := csr_S_len i l
            have hnz : nx i l 0 = (csr i l).S := nx_zero i l
            have hbo := HO.out
            generalize hSS : (csr i l).S = S at *
            have HS := Lib.hid hSS
            have HC := Lib.hid hC
            have HNX := Lib.hid hnz
            clear hSS hC hnz hbo
            go_wp2_with (first
              | (at_make; refine wpList_make_one _ rfl (.tmp 91) (.tmp 91) 24 rfl 3 (.int .i64 0) rfl 8 Try.underlying24 Try.info3 .i64 .i64 ((i : Int) + 1) ((i : Int) + 1) (i + 1) rfl rfl (by simp) (by simp) (by omega) (by unfold maxLen; omega) ?_; intro w4 hh4 hb4 hlt4; have HC4 := Lib.hid (HC.out.more hb4); have HH4 := Lib.hid hh4; have HB4 := Lib.hid hb4; clear hh4 hb4)
              | (with_reducible refine at_copy ?_; refine wpList_copy_splice rfl (.tmp 93) (.tmp 94) 24 24 rfl 3 Try.underlying24 (by kernel_rfl) (some ⟨wc.heap.size, 0, none⟩) (some ⟨w.heap.size + 1, 0, none⟩) (i + 1) (i + 1) (i + 1) (i + 1) rfl rfl wc.heap.size 0 (List.replicate (i + 1) (.int .i64 0)) 3 HH4.out (S.map (Value.int .i64)) (by simp [hsl]) (fun _ => ⟨rfl, _, rfl, fun j v hv => ints_src HC4.out.base.st j v hv⟩) (by simp [hsl]) (by simp [Value.oneCell']) wc.heap.size wc HB4.out (Nat.le_refl _) ?_; intro w5 hh5 hb5; have HH5 := Lib.hid (ints_splice S (i + 1) hsl ▸ hh5.out); have HB5 := Lib.hid hb5; clear hh5 hb5))
            have hD : DSt w w5 i S (nx i l 0) (List.replicate l.length 0) (List.replicate l.length 0) ba bt bg wc.heap.size := DSt.intro HC.out HB5.out (by rw [HNX.out]; exact HH5.out)
            have hcA : Copied i l (fun e => e.2.1) 0 (List.replicate l.length 0) := ⟨by simp, fun x _ r hr => by simp [cnt, outs] at hr⟩
            have hcT : Copied i l (fun e => e.2.2) 0 (List.replicate l.length 0) := ⟨by simp, fun x _ r hr => by simp [cnt, outs] at hr⟩
            clear HC HC4 HH4 HB4 HH5 HB5 hlt4 HNX
            generalize wc.heap.size = bn at *
            go_loopg [13, 14, 98] l.length (fun fu _ _ c wr => ∃ (k : Nat) (A T : List Int), k + fu = l.length ∧ c = .int .i64 k ∧ Copied i l (fun e => e.2.1) k A ∧ Copied i l (fun e => e.2.2) k T ∧ DSt w wr i S (nx i l k) A T ba bt bg bn)
            case atStart => exact ⟨0, _, _, by omega, rfl, hcA, hcT, hD⟩
            case round =>
              clear hD hcA hcT
              obtain ⟨k, A, T, hk, rfl, hcA, hcT, hD⟩ := hrel
              have hAl : A.length = l.length := hcA.1
              have hTl : T.length = l.length := hcT.1
              by_cases hlt : k < l.length
              · obtain ⟨f, hf, hfn⟩ := buildOk_at hlt HO.out
                obtain ⟨s1, s2⟩ := copied_step hcA HN.out hlt hf hfn
                obtain ⟨s3, s4⟩ := copied_step hcT HN.out hlt hf hfn
                obtain ⟨s5, s6⟩ := nx_step (n := i) hlt hf hfn
                obtain ⟨p, hp⟩ : ∃ p : Nat, cntLt l f + cnt (l.take k) f = p := ⟨_, rfl⟩
                rw [hp] at s1 s2 s3 s4 s5 s6
                clear hp
                obtain ⟨b, off, rfl, d1, d2, d3⟩ := HA.out k hlt
                have y1 := bkeep hD.c.base.below d1
                have y2 := bkeep hD.c.base.below d2
                have y3 := bkeep hD.c.base.below d3
                clear d1 d2 d3
                generalize l.getD k (0, 0, 0) = e at *
                obtain ⟨ef, ea, et⟩ := e
                obtain rfl : ef = (f : Int) := hf
                have hD2 := hD.more (balloc wr (.cells #[.int .i64 f, .int .i64 ea, .int .i64 et] 44))
                obtain ⟨c1, c2, c3, f1, f2, f3⟩ := hD2.facts p f (by rw [nx, tab_len]; omega)
                rw [s5] at c3
                obtain ⟨v1, -⟩ := hD2.vals p (by omega) (by omega)
                have hD3 := (hD.setA p ea).more (balloc _ (.cells #[.int .i64 f, .int .i64 ea, .int .i64 et] 44))
                have hD4 := ((hD.setA p ea).setT p et).more (balloc _ (.cells #[.int .i64 f, .int .i64 ea, .int .i64 et] 44))
                obtain ⟨-, v2⟩ := hD3.vals p (by rw [List.length_set]; omega) (by omega)
                obtain ⟨-, c4, -, -, f4, -⟩ := hD3.facts p f (by rw [nx, tab_len]; omega)
                obtain ⟨-, -, c6, -, -, f6⟩ := hD4.facts p f (by rw [nx, tab_len]; omega)
                rw [s5] at c6
                rw [hTl] at c4
                obtain ⟨-, c5, -, -, f5, -⟩ := (hD.setA p ea).facts p f (by rw [nx, tab_len]; omega)
                rw [hTl] at c5
                obtain ⟨-, v5⟩ := (hD.setA p ea).vals p (by rw [List.length_set]; omega) (by omega)
                obtain ⟨l1, l2, l3, l4⟩ := hD.lts
                have n1 := hD.c.hat
                have n2 := hD.han
                have n3 := hD.htn
                rw [hAl] at c1
                rw [hTl] at c2
                have S1 := Lib.hid s2
                have S2 := Lib.hid s4
                have HD := Lib.hid (by have := ((hD.setA p ea).setT p et).setN f ((p : Int) + 1); rw [s6] at this; exact this)
                have hsz := hD.size
                clear hD hD2 hD3 hD4 hcA hcT s2 s4 s5 s6 hAl hTl s3
                have b1 : (p : Int) < (l.length : Int) := by omega
                have b2 : (f : Int) < (i : Int) + 1 := by omega
                go_wp2_with fail
                go_region
                all_goals go_wp2_with fail
                go_roundg (gk - 1)
                case measure => omega
                case rel => exact ⟨k + 1, A.set p ea, T.set p et, by omega, rfl, S1.out, S2.out, (HD.out.more (balloc _ _)).drew⟩
              · obtain rfl : gk = 0 := by omega
                obtain rfl : k = l.length := by omega
                have eA := copied_end H0.out HN.out hcA
                have eT := copied_end H0.out HN.out hcT
                have HE := Lib.hid (show csr i l = ⟨S, A, T⟩ by rw [eA, eT, ← HS.out]; rfl)
                have HBO := HO
                have r0 := hD.c.base.rcell 0 (by omega)
                have r1 := hD.c.base.rcell 1 (by omega)
                have r2 := hD.c.base.rcell 2 (by omega)
                have g0 := hD.c.base.rfree 0
                have g1 := hD.c.base.rfree 1
                have g2 := hD.c.base.rfree 2
                have c0 := cell_of_block hD.c.lg 0 _ rfl
                have c1 := cell_of_block hD.c.lg 1 _ rfl
                have c2 := cell_of_block hD.c.lg 2 _ rfl
                have HD := Lib.hid hD
                clear hD hcA hcT eA eT
                go_wp2_with fail
                obtain ⟨q1, q2, q3, q4⟩ := HD.out.c.base.ret (.slice (some ⟨w.heap.size + 1, 0, none⟩) (i + 1) (i + 1)) (.slice (some ⟨ba, 0, none⟩) l.length l.length) (.slice (some ⟨bt, 0, none⟩) l.length l.length)
                refine bodyPost_ret (v := .tuple #[.agg #[.slice (some ⟨w.heap.size + 1, 0, none⟩) (i + 1) (i + 1), .slice (some ⟨ba, 0, none⟩) l.length l.length, .slice (some ⟨bt, 0, none⟩) l.length l.length], .int .i64 0]) (by simp [results, Try.results21, go_sem, q2, q3, q4]) rfl ?_
                have hd := HD.out.done hsl hn (by omega) (by omega) (.slice (some ⟨w.heap.size + 1, 0, none⟩) (i + 1) (i + 1)) (.slice (some ⟨ba, 0, none⟩) l.length l.length) (.slice (some ⟨bt, 0, none⟩) l.length l.length)
                rw [hAl, hTl, ← HE.out] at hd
                exact graphErr_good HBO.out q1 hd
end Go.Proofs.Ytnlaonppgebpoaa
