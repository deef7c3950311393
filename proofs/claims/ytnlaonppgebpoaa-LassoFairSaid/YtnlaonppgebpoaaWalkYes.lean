/-
  lasso's walk, where the part is good. (Written by gen_walk.py.)
-/
import Derived.Test.YtnlaonppgebpoaaWalkB
namespace Go.Proofs.Ytnlaonppgebpoaa
open Go.RowKit

theorem mboolsR (n : Nat) : madeCells #[Value.bool false] n = bools (List.replicate n false) := by rw [bools_replicate, ← madeCells_one]
def MR.mask (B N : Nat) : MR := ⟨fun v w => ∃ b, v = .slice (some ⟨b, 0, none⟩) N N ∧ w.heap[b]? = some (.cells (bools (List.replicate N false)) 4 (0, 0)) ∧ B ≤ b, fun _ _ _ hb ⟨b, e, h, h2⟩ => ⟨b, e, bheap hb h, h2⟩⟩
def MR.stops (B : Nat) (home : Int) : MR := ⟨fun v w => ∃ b, v = .slice (some ⟨b, 0, none⟩) 1 1 ∧ w.heap[b]? = some (.cells #[.int .i64 home] 3 (0, 0)) ∧ B ≤ b, fun _ _ _ hb ⟨b, e, h, h2⟩ => ⟨b, e, bheap hb h, h2⟩⟩
def MR.wst (B N : Nat) (gS gA gT : Value) (home : Int) : MR := ⟨fun v w => ∃ mb sb, v = .agg #[gS, gA, gT, .slice (some ⟨mb, 0, none⟩) N N, .int .i64 home, .slice none 0 0, .slice (some ⟨sb, 0, none⟩) 1 1] ∧ w.heap[mb]? = some (.cells (bools (List.replicate N false)) 4 (0, 0)) ∧ w.heap[sb]? = some (.cells #[.int .i64 home] 3 (0, 0)) ∧ B ≤ mb ∧ B ≤ sb,
  fun _ _ _ hb ⟨mb, sb, e, h, h2, h3⟩ => ⟨mb, sb, e, bheap hb h, bheap hb h2, h3⟩⟩
def MR.wbox (B N : Nat) (gS gA gT : Value) (home : Int) : MR := ⟨fun v w => ∃ wb mb sb, v = .pointer (some ⟨wb, 0, none⟩) ∧ w.heap[wb]? = some (.cells #[gS, gA, gT, .slice (some ⟨mb, 0, none⟩) N N, .int .i64 home, .slice none 0 0, .slice (some ⟨sb, 0, none⟩) 1 1] 115 (0, 0)) ∧ w.heap[mb]? = some (.cells (bools (List.replicate N false)) 4 (0, 0)) ∧ w.heap[sb]? = some (.cells #[.int .i64 home] 3 (0, 0)) ∧ B ≤ mb ∧ B ≤ sb ∧ B ≤ wb,
  fun _ _ _ hb ⟨wb, mb, sb, e, h0, h, h2, h3⟩ => ⟨wb, mb, sb, e, bheap hb h0, bheap hb h, bheap hb h2, h3⟩⟩
def MR.pvar (B : Nat) : MR := ⟨fun v w => ∃ b, v = .pointer (some ⟨b, 0, none⟩) ∧ w.heap[b]? = some (.cells #[.pointer none] 111 (0, 0)) ∧ B ≤ b, fun _ _ _ hb ⟨b, e, h, h2⟩ => ⟨b, e, bheap hb h, h2⟩⟩
theorem reachW_len {g : Gr} {inl : List Bool} {s : WS} {t : Int} (hs : inB inl s.1 = true) (h0 : 0 ≤ s.1) : (reachW g inl s t).2.1.length ≤ s.2.1.length + inl.length ∧ (reachW g inl s t).2.2.length ≤ s.2.2.length + inl.length := by
  have h1 := runW_len g ((insL g inl s.1 t).getD []) s
  have h2 := insL_len g inl s.1 t hs h0
  unfold reachW
  omega

set_option maxRecDepth 100000 in
set_option maxHeartbeats 64000000 in
theorem walk_yes (v u pv : Value) (g : Gr) (en : List (List Bool)) (A : Nat) (mode : Int) (part : List Int) (w : World) (h : GraphAt w v g) (hu : BRowsAt w u en) (hp : IntsAt w pv part) (hl : part.length ≤ 1000000) (hn : nodesN g ≤ 100000) (hne : 0 < part.length)
    (hgood : goodB g en (A : Nat) mode part = true) (hW : WkOk g en mode (maskL (nodesN g) part) (nodesN g) (leastL part) A) (hhome : inB (maskL (nodesN g) part) (leastL part) = true ∧ 0 ≤ leastL part) :
    Calls Try.prog 100 #[v, u, .int .i64 (A : Nat), .int .i64 mode, pv] w fun e w' => ∃ wb ib gS gA gT wv sv, e = .returned (.tuple #[.pointer (some ⟨wb, 0, none⟩), .bool true]) ∧
      WkM w w' gS gA gT wb ib (maskL (nodesN g) part) (walkL g en mode (maskL (nodesN g) part) (nodesN g) (leastL part) A).1 (walkL g en mode (maskL (nodesN g) part) (nodesN g) (leastL part) A).2.1 (walkL g en mode (maskL (nodesN g) part) (nodesN g) (leastL part) A).2.2 wv sv := by
  obtain ⟨hRT, hOk, -, -⟩ := goodB_iff.1 hgood
  have hR := hRT.right
  have hlen := hRT.len
  have hA : A ≤ 100 := by have := hRT.h1; omega
  have hrows : ∀ i, i < en.length → (en.getD i []).length = A := fun i hi => by have := hRT.rows i hi; omega
  obtain ⟨sa, aa, ta, sc, ac, tc, rfl, -⟩ := h.var
  have HU := Lib.hid hu
  have HPA := Lib.hid hp
  obtain ⟨ua, uc, rfl, -⟩ := hu
  obtain ⟨pa, pc, rfl, hpc⟩ := hp
  have hb := (balloc w (.cells #[.slice sa g.S.length sc, .slice aa g.A.length ac, .slice ta g.T.length tc] 26)).trans ((balloc (w.alloc (.cells #[.slice sa g.S.length sc, .slice aa g.A.length ac, .slice ta g.T.length tc] 26)) (.cells #[.slice ua en.length uc] 53)).mono (balloc w _).size)
  have B0 := Lib.hid hb
  have X0 := Lib.hid (bheap (balloc (w.alloc (.cells #[.slice sa g.S.length sc, .slice aa g.A.length ac, .slice ta g.T.length tc] 26)) (.cells #[.slice ua en.length uc] 53)) (heap_alloc_new w (.cells #[.slice sa g.S.length sc, .slice aa g.A.length ac, .slice ta g.T.length tc] 26)))
  have X1 := Lib.hid (heap_alloc_two w (.cells #[.slice sa g.S.length sc, .slice aa g.A.length ac, .slice ta g.T.length tc] 26) (.cells #[.slice ua en.length uc] 53))
  have HG := Lib.hid (fun (w' : World) (hb : Below w.heap.size w w') => (by have := good_ok _ _ _ g en (A : Nat) mode part w' (h.below hb) (HU.out.below hb) (HPA.out.below hb) hl hn; rwa [hgood] at this : Calls Try.prog 61 #[.agg #[.slice sa g.S.length sc, .slice aa g.A.length ac, .slice ta g.T.length tc], .slice ua en.length uc, .int .i64 (A : Nat), .int .i64 mode, .slice pa part.length pc] w' fun e w2 => e = .returned (.bool true) ∧ Below w'.heap.size w' w2))
  have HLE := Lib.hid (fun (w' : World) (hb : Below w.heap.size w w') => least_ok _ part w' (HPA.out.below hb) hne hl)
  have HIN := Lib.hid (fun k (hk : k < part.length) => hOk.2 _ (getD_mem hk))
  have HST : Hid (∀ k q : Nat, k < part.length → part.getD k 0 = (q : Int) → (maskL (nodesN g) (part.take k)).set q true = maskL (nodesN g) (part.take (k + 1))) := Lib.hid (fun k q hk hq => mask_step hk hq)
  have HML : Hid (∀ p, (maskL (nodesN g) p).length = nodesN g) := Lib.hid (maskL_len _)
  have T0 : Hid (maskL (nodesN g) (part.take 0) = List.replicate (nodesN g) false) := Lib.hid (mask_nil _)
  have TA : Hid (maskL (nodesN g) (part.take part.length) = maskL (nodesN g) part) := Lib.hid (by rw [List.take_length])
  obtain ⟨N, hN⟩ : ∃ N, nodesN g = N := ⟨_, rfl⟩
  rw [hN] at HIN HST HML T0 TA hW hhome hn hlen ⊢
  have hE : ∀ e ∈ allL g, 0 ≤ e.2.2 ∧ e.2.2 < ((maskL N part).length : Int) := fun e he => by
    have h3 := allL_mem hR he
    have h4 := nodesN_right hR
    rw [HML.out]; omega
  have HFA : Hid (∀ (w1 : World) (gb ib vb ab k : Nat) (at_ : Int) (went stops : List Int) (wv sv : Value), WkM w w1 (.slice sa g.S.length sc) (.slice aa g.A.length ac) (.slice ta g.T.length tc) gb ib (maskL N part) at_ went stops wv sv → w1.heap[vb]? = some (.cells #[.pointer (some ⟨gb, 0, none⟩)] 111 (0, 0)) → w1.heap[ab]? = some (.cells #[.int .i64 (k : Nat)] 3 (0, 0)) →
      Calls Try.prog 115 #[.pointer (some ⟨gb, 0, none⟩), .func (.func 116) #[] #[.pointer (some ⟨vb, 0, none⟩), .pointer (some ⟨ab, 0, none⟩)]] w1 fun e w2 => e = .returned (.int .i64 (actF g (maskL N part) N k)) ∧ Below w1.heap.size w1 w2) := Lib.hid (fun w1 gb ib vb ab k at_ went stops wv sv hM hv ha => by
    have := first_ok hM (inn_acts hM h (k : Int) hE (cell_of_block hv 0 _ rfl) (cell_of_block ha 0 _ rfl)) (by rw [HML.out]; exact hn)
    rw [HML.out] at this
    exact this)
  have HFD : Hid (∀ (w1 : World) (gb ib eb ab k : Nat) (at_ : Int) (went stops : List Int) (wv sv : Value), k < A → WkM w w1 (.slice sa g.S.length sc) (.slice aa g.A.length ac) (.slice ta g.T.length tc) gb ib (maskL N part) at_ went stops wv sv → w1.heap[eb]? = some (.cells #[.slice ua en.length uc] 53 (0, 0)) → w1.heap[ab]? = some (.cells #[.int .i64 (k : Nat)] 3 (0, 0)) →
      Calls Try.prog 115 #[.pointer (some ⟨gb, 0, none⟩), .func (.func 120) #[] #[.pointer (some ⟨eb, 0, none⟩), .pointer (some ⟨ab, 0, none⟩)]] w1 fun e w2 => e = .returned (.int .i64 (idleF en (maskL N part) N k)) ∧ Below w1.heap.size w1 w2) := Lib.hid (fun w1 gb ib eb ab k at_ went stops wv sv hk hM hv ha => by
    have hI := inn_idle (HU.out.below hM.below) hrows hk (cell_of_block hv 0 _ rfl) (cell_of_block ha 0 _ rfl)
    rw [hlen, ← HML.out part] at hI
    have := first_ok hM hI (by rw [HML.out]; exact hn)
    rw [HML.out] at this
    exact this)
  have HRE := Lib.hid (fun (w1 : World) (gb ib : Nat) (s : WS) (wv sv : Value) (src t : Nat) (hM : WkM w w1 (.slice sa g.S.length sc) (.slice aa g.A.length ac) (.slice ta g.T.length tc) gb ib (maskL N part) s.1 s.2.1 s.2.2 wv sv) hsrc hs ht h1 h2 => wreach_ok hM h hR (by rw [HML.out, hN]) (by rw [HML.out]; exact hn) src t hsrc hs ht h1 h2)
  have HAT := Lib.hid (fun (w1 : World) (gb ib : Nat) (s : WS) (wv sv : Value) (a : Int) (hM : WkM w w1 (.slice sa g.S.length sc) (.slice aa g.A.length ac) (.slice ta g.T.length tc) gb ib (maskL N part) s.1 s.2.1 s.2.2 wv sv) h1 h2 => act_ok hM h a h1 h2)
  have RL : Hid (∀ k (t : Int), k ≤ A → (reachW g (maskL N part) (wkA g en mode (maskL N part) N (leastL part) k) t).2.1.length ≤ 1000000000 ∧ (reachW g (maskL N part) (wkA g en mode (maskL N part) N (leastL part) k) t).2.2.length ≤ 1000000000) := Lib.hid (fun k t hk => by
    obtain ⟨h1, h2, h3, h4⟩ := hW.st k hk
    have h5 := reachW_len (g := g) (t := t) h1 h2
    rw [HML.out] at h5
    have h6 : k * 100001 ≤ 100 * 100001 := Nat.mul_le_mul_right _ (by omega)
    omega)
  have WS0 : Hid (∀ k, k ≤ A → ∃ src : Nat, (wkA g en mode (maskL N part) N (leastL part) k).1 = (src : Int) ∧ inB (maskL N part) (src : Int) = true ∧ (wkA g en mode (maskL N part) N (leastL part) k).2.1.length ≤ 900000000 ∧ (wkA g en mode (maskL N part) N (leastL part) k).2.2.length ≤ 900000000) := Lib.hid (fun k hk => by
    obtain ⟨h1, h2, h3, h4⟩ := hW.st k hk
    have h6 : k * 100001 ≤ 100 * 100001 := Nat.mul_le_mul_right _ (by omega)
    refine ⟨(wkA g en mode (maskL N part) N (leastL part) k).1.toNat, by omega, ?_, by omega, by omega⟩
    rw [Int.toNat_of_nonneg h2]; exact h1)
  have WMID : Hid (∀ k, k < A → actF g (maskL N part) N k ≠ -1 → ∃ i : Nat, actF g (maskL N part) N k = (i : Int) ∧ inB (maskL N part) (i : Int) = true) := Lib.hid (fun k hk hne => by
    obtain ⟨h1, h2⟩ := hW.mid k hk hne
    exact ⟨(actF g (maskL N part) N k).toNat, by omega, by rw [Int.toNat_of_nonneg h2]; exact h1⟩)
  have WIDL : Hid (∀ k, k < A → actF g (maskL N part) N k = -1 → mode = 1 → ∃ i : Nat, idleF en (maskL N part) N k = (i : Int) ∧ inB (maskL N part) (i : Int) = true) := Lib.hid (fun k hk hne hm => by
    obtain ⟨h1, h2⟩ := hW.idle k hk hne hm
    exact ⟨(idleF en (maskL N part) N k).toNat, by omega, by rw [Int.toNat_of_nonneg h2]; exact h1⟩)
  have W1 : Hid (∀ k, actF g (maskL N part) N k ≠ -1 → wkA g en mode (maskL N part) N (leastL part) (k + 1) = actW g (reachW g (maskL N part) (wkA g en mode (maskL N part) N (leastL part) k) (actF g (maskL N part) N k)) (k : Int)) := Lib.hid (fun k hk => by rw [wkA, stepA, if_neg hk])
  have W2 : Hid (∀ k, actF g (maskL N part) N k = -1 → mode = 1 → wkA g en mode (maskL N part) N (leastL part) (k + 1) = reachW g (maskL N part) (wkA g en mode (maskL N part) N (leastL part) k) (idleF en (maskL N part) N k)) := Lib.hid (fun k hk hm => by rw [wkA, stepA, if_pos hk, if_pos hm])
  have W3 : Hid (∀ k, actF g (maskL N part) N k = -1 → mode ≠ 1 → wkA g en mode (maskL N part) N (leastL part) (k + 1) = wkA g en mode (maskL N part) N (leastL part) k) := Lib.hid (fun k hk hm => by rw [wkA, stepA, if_pos hk, if_neg hm])
  have W0 : Hid (wkA g en mode (maskL N part) N (leastL part) 0 = (leastL part, [], [leastL part])) := Lib.hid rfl
  obtain ⟨home, hhm⟩ : ∃ q : Nat, leastL part = (q : Int) := ⟨(leastL part).toNat, by have := hhome.2; omega⟩
  have HHM := Lib.hid hhome.1
  have HPC := Lib.hid hpc
  unfold walkL
  rw [hhm] at HHM HLE RL WS0 W0 W1 W2 W3 ⊢
  rw [hlen] at HG HFD B0 X0 X1
  rw [hlen]
  clear h hb hpc hRT hOk hR hrows hgood hW hhome hN hE HU HPA hne hhm
  generalize actF g (maskL N part) N = AF at *
  generalize idleF en (maskL N part) N = IF at *
  generalize wkA g en mode (maskL N part) N (home : Int) = WW at *
  generalize maskL N = MK at *
  generalize reachW g (MK part) = RW at *
  obtain ⟨n, hnn⟩ : ∃ n, part.length = n := ⟨_, rfl⟩
  rw [hnn] at HG HLE HIN HST TA HPC hl
  rw [hnn]
  clear hnn hlen
  go_enter Try.func100, Try.ntmps100
  go_wp2_with (first
    | (go_at_call 114; refine (HLE.out _ B1.out).mono ?_; rintro e w3 ⟨rfl, hb3⟩; have B3 := Lib.hid (B1.out.trans (hb3.mono B1.out.size)); have Y0 := Lib.hid (bheap hb3 Z0.out); have Y1 := Lib.hid (bheap hb3 Z1.out); clear hb3)
    | (go_at_call 61; refine (HG.out _ B0.out).mono ?_; rintro e w2 ⟨rfl, hb2⟩; have B1 := Lib.hid (B0.out.trans (hb2.mono B0.out.size)); have Z0 := Lib.hid (bheap hb2 X0.out); have Z1 := Lib.hid (bheap hb2 X1.out); clear hb2))
  have c0 := cell_of_block Y0.out 0 _ rfl
  have c1 := cell_of_block Y0.out 1 _ rfl
  have c2 := cell_of_block Y0.out 2 _ rfl
  have c3 := cell_of_block Y1.out 0 _ rfl
  have hm4 := run_make_row' (P := Try.prog) 33 4 (.bool false) 1 Try.underlying33 Try.info4 rfl .i64 .i64 N (by omega) (by omega)
  clear B0 B1 X0 X1 Z0 Z1 HG HLE
  refine region_rel_tail 10 (fun _ => undef)
    (fun f => { tmps := #[.agg #[.slice sa g.S.length sc, .slice aa g.A.length ac, .slice ta g.T.length tc], .slice ua N uc, .int .i64 (A : Nat), .int .i64 mode, .slice pa n pc, .pointer (some ⟨w.heap.size, 0, none⟩), .pointer (some ⟨w.heap.size + 1, 0, none⟩), undef, undef, undef, .pointer none, .bool false, .int .i64 (home : Nat), f 13, undef, undef, undef, undef, .agg #[.slice sa g.S.length sc, .slice aa g.A.length ac, .slice ta g.T.length tc], .slice ua N uc, .int .i64 (A : Nat), .int .i64 mode, .slice pa n pc, .bool true, .bool false, .slice pa n pc, .int .i64 (home : Nat), f 27, f 28, f 29, f 30, f 31, f 32, f 33, f 34, f 35, undef, undef, undef, undef, undef, undef, undef, undef, undef, undef, undef, undef, undef, undef, undef, undef, undef, undef, undef, undef, undef, undef, undef, undef, undef, undef, undef, undef, undef, undef, undef, undef, undef, undef, undef, undef, undef, undef, undef, undef], defers := [] }) (fun j => if j = 9 then 13 else j + 27)
    (relM [.of (.eq (.agg #[.slice sa g.S.length sc, .slice aa g.A.length ac, .slice ta g.T.length tc])), .of (.eq (.slice ua N uc)), .of (.eq (.int .i64 (N : Nat))), .mask w.heap.size N, .of (.eq (.int .i64 (home : Nat))), .of (.eq (.int .i64 (home : Nat))), .stops w.heap.size (home : Nat), .wst w.heap.size N (.slice sa g.S.length sc) (.slice aa g.A.length ac) (.slice ta g.T.length tc) (home : Nat), .wbox w.heap.size N (.slice sa g.S.length sc) (.slice aa g.A.length ac) (.slice ta g.T.length tc) (home : Nat), .pvar w.heap.size])
    rfl (by kernel_rfl) (by kernel_rfl) (by kernel_rfl) (by decide) (by kernel_rfl) (fun i u w w' hb h => relM_mono hb h) (by kernel_rfl) (by kernel_rfl) ?_ ?_ ?_
  · intro j hj f v
    rcases j with _ | _ | _ | _ | _ | _ | _ | _ | _ | _ | j
    all_goals first | rfl | omega | (simp at hj; omega)
  · refine ⟨?_, ?_, ?_, ?_, ?_, ?_, ?_, ?_, ?_, ?_, trivial⟩
    · intro f w' hb hd K hK
      have e0 := bkeep hb c0
      have e1 := bkeep hb c1
      have e2 := bkeep hb c2
      dsimp only
      go_simp
      exact hK (.agg #[.slice sa g.S.length sc, .slice aa g.A.length ac, .slice ta g.T.length tc]) w' (Below.refl _ _) rfl
    · intro f w' hb hd K hK
      have e0 := bkeep hb c3
      dsimp only
      go_simp
      exact hK (.slice ua N uc) w' (Below.refl _ _) rfl
    · intro f w' hb hd K hK
      have h0 : f 28 = (.slice ua N uc) := hd 1 (by kernel_rfl)
      dsimp only
      go_simp
      have q := hK (.int .i64 (N : Nat)) w' (Below.refl _ _) rfl
      simp only [h0] at q
      exact q
    · intro f w' hb hd K hK
      have h0 : f 29 = (.int .i64 (N : Nat)) := hd 2 (by kernel_rfl)
      have hw1 := hb.size
      dsimp only
      go_simp
      have q := hK _ _ (balloc w' (.cells (madeCells #[.bool false] N) 4)) ⟨w'.heap.size, rfl, by rw [heap_alloc_new, mboolsR], Nat.le_trans (Nat.le_trans B3.out.size (by simp)) hw1⟩
      simp only [h0] at q
      exact q
    · intro f w' hb hd K hK
      dsimp only
      go_simp
      exact hK (.int .i64 (home : Nat)) w' (Below.refl _ _) rfl
    · intro f w' hb hd K hK
      dsimp only
      go_simp
      exact hK (.int .i64 (home : Nat)) w' (Below.refl _ _) rfl
    · intro f w' hb hd K hK
      have h0 : f 32 = (.int .i64 (home : Nat)) := hd 5 (by kernel_rfl)
      have hw1 := hb.size
      dsimp only
      go_simp
      have q := hK _ _ (balloc w' (.cells #[(.int .i64 (home : Nat))] 3)) ⟨w'.heap.size, rfl, heap_alloc_new w' _, Nat.le_trans (Nat.le_trans B3.out.size (by simp)) hw1⟩
      simp only [h0] at q
      exact q
    · intro f w' hb hd K hK
      have h0 : f 27 = (.agg #[.slice sa g.S.length sc, .slice aa g.A.length ac, .slice ta g.T.length tc]) := hd 0 (by kernel_rfl)
      have h1 : f 31 = (.int .i64 (home : Nat)) := hd 4 (by kernel_rfl)
      obtain ⟨mb, h2, hm, hm2⟩ := hd 3 (by kernel_rfl)
      have h2 : f 30 = _ := h2
      obtain ⟨sb, h3, hs, hs2⟩ := hd 6 (by kernel_rfl)
      have h3 : f 33 = _ := h3
      dsimp only
      go_simp
      have q := hK _ w' (Below.refl _ _) ⟨mb, sb, rfl, hm, hs, hm2, hs2⟩
      simp only [h0, h1, h2, h3] at q
      exact q
    · intro f w' hb hd K hK
      obtain ⟨mb, sb, h0, hm, hs, hm2, hs2⟩ := hd 7 (by kernel_rfl)
      have h0 : f 34 = _ := h0
      have hw1 := hb.size
      dsimp only
      go_simp
      have q := hK _ _ (balloc w' _) ⟨w'.heap.size, mb, sb, rfl, heap_alloc_new w' _, bheap (balloc w' _) hm, bheap (balloc w' _) hs, hm2, hs2, Nat.le_trans (Nat.le_trans B3.out.size (by simp)) hw1⟩
      simp only [h0] at q
      exact q
    · intro f w' hb hd K hK
      have hw1 := hb.size
      dsimp only
      go_simp
      exact hK _ _ (balloc w' _) ⟨w'.heap.size, rfl, heap_alloc_new w' _, Nat.le_trans (Nat.le_trans B3.out.size (by simp)) hw1⟩
  intro f w6 hb6 hr6
  obtain ⟨gb, ib, sb, h8, k1, k2, k3, k4, k5, k6⟩ := hr6 8 (by decide)
  have h8 : f 35 = _ := h8
  obtain ⟨vb, h9, k7, k8⟩ := hr6 9 (by decide)
  have h9 : f 13 = _ := h9
  simp only [h8, h9, List.drop_succ_cons, List.drop_zero]
  have M7 := Lib.hid (WkM.start (w0 := w) (home := (home : Nat)) (B3.out.trans (hb6.mono B3.out.size)) k1 k2 k3 k7 ⟨k6, k4, k5, k8⟩)
  have c9 := cell_of_block k7 0 _ rfl
  have f9 := free_of_block k7 0
  have E7 := Lib.hid (M7.out.2.2 (w.heap.size + 1) _ (fun e => by have h1 := bheap hb6 Y1.out; rw [e, k7] at h1; simp at h1) (bheap hb6 Y1.out))
  clear hb6 hr6 h8 h9 k1 k2 k3 k4 k5 k6 k7 k8 c0 c1 c2 c3 hm4
  generalize f 27 = x27
  generalize f 28 = x28
  generalize f 29 = x29
  generalize f 30 = x30
  generalize f 31 = x31
  generalize f 32 = x32
  generalize f 33 = x33
  generalize f 34 = x34
  go_wp2_with fail
  generalize World.setCell w6 _ _ = w7 at *
  have M0 := Lib.hid (show WkM w w7 (.slice sa g.S.length sc) (.slice aa g.A.length ac) (.slice ta g.T.length tc) gb ib (MK (part.take 0)) (home : Nat) [] [(home : Nat)] (.slice none 0 0) (.slice (some ⟨sb, 0, none⟩) 1 1) by rw [T0.out]; exact M7.out.1)
  have V0 := Lib.hid M7.out.2.1
  clear M7 c9 f9
  go_loopg [38] n (fun fu c wr => ∃ k : Nat, k + fu = n ∧ c = .int .i64 k ∧ Hid (WkM w wr (.slice sa g.S.length sc) (.slice aa g.A.length ac) (.slice ta g.T.length tc) gb ib (MK (part.take k)) (home : Nat) [] [(home : Nat)] (.slice none 0 0) (.slice (some ⟨sb, 0, none⟩) 1 1)) ∧ Hid (wr.heap[vb]? = some (.cells #[.pointer (some ⟨gb, 0, none⟩)] 111 (0, 0))) ∧ Hid (wr.heap[w.heap.size + 1]? = some (.cells #[.slice ua N uc] 53 (0, 0))))
  case atStart => exact ⟨0, by omega, rfl, M0, V0, E7⟩
  case round =>
    clear M0 V0 E7
    obtain ⟨k, hk, rfl, HM, HV, HE⟩ := hrel
    by_cases hlt : k < n
    · obtain ⟨b1, o1, rfl, d1⟩ := HPC.out k hlt
      have y1 := bkeep HM.out.below d1
      have z1 : (k : Int) < (n : Int) := by omega
      obtain ⟨q, hq, hqN⟩ := HIN.out k hlt
      have c13 := cell_of_block HV.out 0 _ rfl
      have c3 : wr.cell? ⟨gb, 3, none⟩ = some (.slice (some ⟨ib, 0, none⟩) N N) := by
        have := HM.out.cell 3 _ rfl
        simp only [HML.out] at this
        exact this
      have hi := HM.out.hi
      have c4 := cell_of_block hi q _ (bools_get _ q (by rw [HML.out]; exact hqN))
      have f4 := free_of_block hi q
      have MS := HM.out.setIn q true
      have HM2 : Hid (WkM w (wr.setCell ⟨ib, q, none⟩ (.bool true)) (.slice sa g.S.length sc) (.slice aa g.A.length ac) (.slice ta g.T.length tc) gb ib (MK (part.take (k + 1))) (home : Nat) [] [(home : Nat)] (.slice none 0 0) (.slice (some ⟨sb, 0, none⟩) 1 1)) := Lib.hid (by rw [← HST.out k q hlt hq]; exact MS.1)
      have HV2 := Lib.hid (MS.2 vb _ (fun e => by have h1 := HV.out; rw [e, hi] at h1; simp at h1) HV.out)
      have HE2 := Lib.hid (MS.2 (w.heap.size + 1) _ (fun e => by have h1 := HE.out; rw [e, hi] at h1; simp at h1) HE.out)
      rw [hq] at y1
      have z2 : (q : Int) < (N : Int) := by omega
      clear d1 hq hi MS
      generalize (MK (part.take k)).getD q false = old at *
      go_wp2_with fail
      go_roundg (n - (k + 1))
      case measure => omega
      case rel => exact ⟨k + 1, by omega, by simp, HM2, HV2, HE2⟩
    · have hkn : n = k := by omega
      subst hkn
      have M1 := Lib.hid (show WkM w wr (.slice sa g.S.length sc) (.slice aa g.A.length ac) (.slice ta g.T.length tc) gb ib (MK part) (WW 0).1 (WW 0).2.1 (WW 0).2.2 (.slice none 0 0) (.slice (some ⟨sb, 0, none⟩) 1 1) by rw [W0.out, ← TA.out]; exact HM.out)
      go_wp2_with fail
      clear HM
      go_loopg [50] A (fun fu c wr => ∃ (k : Nat) (wv sv : Value), k + fu = A ∧ c = .int .i64 k ∧ Hid (WkM w wr (.slice sa g.S.length sc) (.slice aa g.A.length ac) (.slice ta g.T.length tc) gb ib (MK part) (WW k).1 (WW k).2.1 (WW k).2.2 wv sv) ∧ Hid (wr.heap[vb]? = some (.cells #[.pointer (some ⟨gb, 0, none⟩)] 111 (0, 0))) ∧ Hid (wr.heap[w.heap.size + 1]? = some (.cells #[.slice ua N uc] 53 (0, 0))))
      case atStart => exact ⟨0, _, _, by omega, rfl, M1, HV, HE⟩
      case round =>
        clear M1 HV HE
        obtain ⟨k, wv, sv, hk, rfl, HM, HV, HE⟩ := hrel
        obtain ⟨src, hsrc, hs, l1, l2⟩ := WS0.out k (by omega)
        have HSR := Lib.hid hsrc
        have HS1 := Lib.hid hs
        clear hsrc hs
        by_cases hlt2 : k < A
        · have z1 : (k : Int) < (A : Int) := by omega
          have hba := balloc wr (.cells #[.int .i64 (k : Nat)] 3)
          have M2 := Lib.hid (HM.out.more hba)
          have V2 := Lib.hid (bheap hba HV.out)
          have E2 := Lib.hid (bheap hba HE.out)
          have A2 := Lib.hid (heap_alloc_new wr (.cells #[.int .i64 (k : Nat)] 3))
          have c13 := cell_of_block V2.out 0 _ rfl
          have HC := Lib.hid (HFA.out _ gb ib vb wr.heap.size k _ _ _ wv sv M2.out V2.out A2.out)
          clear hba
          by_cases hf : AF k = -1
          · rw [hf] at HC
            have HF := Lib.hid hf
            clear hf
            by_cases hm : mode = 1
            · have E := Lib.hid (W2.out k HF.out hm)
              obtain ⟨i, hi, hin⟩ := WIDL.out k hlt2 HF.out hm
              have HII := Lib.hid hi
              have HIN2 := Lib.hid hin
              clear hi hin
              have z5 : (mode == 1) = true := by rw [hm]; rfl
              clear hm
              go_wp2_with (go_at_call 115; refine HC.out.mono ?_; rintro e w4 ⟨rfl, hb4⟩; have M4 := Lib.hid (M2.out.more hb4); have V4 := Lib.hid (bheap hb4 V2.out); have E4 := Lib.hid (bheap hb4 E2.out); have A4 := Lib.hid (bheap hb4 A2.out); clear hb4)
              clear c13
              have c13 := cell_of_block V4.out 0 _ rfl
              have HI3 : Hid (∀ (w' : World), Below w4.heap.size w4 w' → Calls Try.prog 115 #[.pointer (some ⟨gb, 0, none⟩), .func (.func 120) #[] #[.pointer (some ⟨w.heap.size + 1, 0, none⟩), .pointer (some ⟨wr.heap.size, 0, none⟩)]] w' fun e w2 => e = .returned (.int .i64 (i : Nat)) ∧ Below w'.heap.size w' w2) := Lib.hid (fun w' hb => by
                have := HFD.out w' gb ib (w.heap.size + 1) wr.heap.size k _ _ _ wv sv hlt2 (M4.out.more hb) (bheap hb E4.out) (bheap hb A4.out)
                rwa [HII.out] at this)
              refine region_rel_tail 4 (fun q => match q with | 66 => u66 | 67 => u67 | 68 => u68 | 69 => u69 | _ => undef)
                (fun f => { tmps := #[.agg #[.slice sa g.S.length sc, .slice aa g.A.length ac, .slice ta g.T.length tc], .slice ua N uc, .int .i64 (A : Nat), .int .i64 mode, .slice pa n pc, .pointer (some ⟨w.heap.size, 0, none⟩), .pointer (some ⟨w.heap.size + 1, 0, none⟩), undef, undef, undef, .pointer none, .bool false, .int .i64 (home : Nat), .pointer (some ⟨vb, 0, none⟩), undef, u15, .pointer (some ⟨wr.heap.size, 0, none⟩), .int IntKind.i64 (-1), .agg #[.slice sa g.S.length sc, .slice aa g.A.length ac, .slice ta g.T.length tc], .slice ua N uc, .int .i64 (A : Nat), .int .i64 mode, .slice pa n pc, .bool true, .bool false, .slice pa n pc, .int .i64 (home : Nat), x27, x28, x29, x30, x31, x32, x33, x34, .pointer (some ⟨gb, 0, none⟩), .slice pa n pc, .int .i64 (n : Nat), .int .i64 (n : Nat), .bool false, u40, u41, u42, u43, u44, u45, u46, u47, u48, .int .i64 (A : Nat), .int .i64 (k : Nat), .bool true, .int .i64 (k : Nat), .pointer (some ⟨gb, 0, none⟩), .func (Fn.func 116) #[] #[.pointer (some ⟨vb, 0, none⟩), .pointer (some ⟨wr.heap.size, 0, none⟩)], .int IntKind.i64 (-1), .int IntKind.i64 (-1), .bool false, u58, u59, u60, u61, u62, u63, .int .i64 mode, .bool true, f 66, f 67, f 68, f 69, u70, u71, undef, undef, undef, undef], defers := [] }) (fun j => j + 66)
                (relM [.of (.eq (.pointer (some ⟨gb, 0, none⟩))), .of (.eq (.pointer (some ⟨gb, 0, none⟩))), .of (.eq (.func (.func 120) #[] #[.pointer (some ⟨w.heap.size + 1, 0, none⟩), .pointer (some ⟨wr.heap.size, 0, none⟩)])), .of (.eq (.int .i64 (i : Nat)))])
                rfl (by kernel_rfl) (by kernel_rfl) (by kernel_rfl) (by decide) (by kernel_rfl) (fun i u w w' hb h => relM_mono hb h) (by kernel_rfl) (by kernel_rfl) ?_ ?_ ?_
              · intro j hj f v
                rcases j with _ | _ | _ | _ | j
                all_goals first | rfl | omega | (simp at hj; omega)
              · refine ⟨?_, ?_, ?_, ?_, trivial⟩
                · intro f w' hb hd K hK
                  have e0 := bkeep hb c13
                  dsimp only
                  go_simp
                  exact hK (.pointer (some ⟨gb, 0, none⟩)) w' (Below.refl _ _) rfl
                · intro f w' hb hd K hK
                  have e0 := bkeep hb c13
                  dsimp only
                  go_simp
                  exact hK (.pointer (some ⟨gb, 0, none⟩)) w' (Below.refl _ _) rfl
                · intro f w' hb hd K hK
                  dsimp only
                  go_simp
                  exact hK (.func (.func 120) #[] #[.pointer (some ⟨w.heap.size + 1, 0, none⟩), .pointer (some ⟨wr.heap.size, 0, none⟩)]) w' (Below.refl _ _) rfl
                · intro f w' hb hd K hK
                  have h0 : f 67 = (.pointer (some ⟨gb, 0, none⟩)) := hd 1 (by kernel_rfl)
                  have h1 : f 68 = (.func (.func 120) #[] #[.pointer (some ⟨w.heap.size + 1, 0, none⟩), .pointer (some ⟨wr.heap.size, 0, none⟩)]) := hd 2 (by kernel_rfl)
                  have HO := Lib.hid (HI3.out w' ((Below.refl _ w4).drew.trans hb))
                  dsimp only
                  go_simp
                  go_wp2_with (go_at_call 115; refine HO.out.mono ?_; rintro e w2 ⟨rfl, hb2⟩)
                  have q := hK (.int .i64 (i : Nat)) w2 hb2 rfl
                  simp only [h0, h1] at q
                  exact q
              intro f w6 hb6 hr6
              have h66 : f 66 = (.pointer (some ⟨gb, 0, none⟩)) := hr6 0 (by decide)
              have h69 : f 69 = (.int .i64 (i : Nat)) := hr6 3 (by decide)
              simp only [h66, h69, List.drop_succ_cons, List.drop_zero]
              have M6 := Lib.hid (M4.out.more hb6)
              have V6 := Lib.hid (bheap hb6 V4.out)
              have E6 := Lib.hid (bheap hb6 E4.out)
              clear hb6 hr6 h66 h69 c13
              generalize f 67 = x67
              generalize f 68 = x68
              go_wp2_with (go_at_call 118; refine (HRE.out _ gb ib (WW k) wv sv src i M6.out HSR.out HS1.out HIN2.out l1 l2).mono ?_; rintro e w9 ⟨rfl, wv2, sv2, hM, hF⟩; have M9 := Lib.hid hM; have V9 := Lib.hid (hF.block M6.out V6.out (by decide) (by decide)); have E9 := Lib.hid (hF.block M6.out E6.out (by decide) (by decide)); clear hM hF)
              go_roundg (A - (k + 1))
              case measure => omega
              case rel => exact ⟨k + 1, wv2, sv2, by omega, by simp, Lib.hid (by rw [E.out, HII.out]; exact M9.out), V9, E9⟩
            · have E := Lib.hid (W3.out k HF.out hm)
              have z5 : (mode == 1) = false := beq_false_of_ne hm
              clear hm
              go_wp2_with (go_at_call 115; refine HC.out.mono ?_; rintro e w4 ⟨rfl, hb4⟩; have M4 := Lib.hid (M2.out.more hb4); have V4 := Lib.hid (bheap hb4 V2.out); have E4 := Lib.hid (bheap hb4 E2.out); clear hb4)
              go_roundg (A - (k + 1))
              case measure => omega
              case rel => exact ⟨k + 1, wv, sv, by omega, by simp, Lib.hid (by rw [E.out]; exact M4.out), V4, E4⟩
          · have E := Lib.hid (W1.out k hf)
            obtain ⟨i, hi, hin⟩ := WMID.out k hlt2 hf
            rw [hi] at HC E
            have HIN2 := Lib.hid hin
            have HRL := Lib.hid (RL.out k (i : Int) (by omega))
            clear hi hin hf
            have z6 : ((i : Int) != -1) = true := by simp [bne]
            go_wp2_with (first
              | (go_at_call 119; refine (HAT.out _ gb ib (RW (WW k) (i : Int)) wv2 sv2 (k : Int) M9.out HRL.out.1 HRL.out.2).mono ?_; rintro e w10 ⟨rfl, wv3, sv3, hM, hF⟩; have M10 := Lib.hid hM; have V10 := Lib.hid (hF.block M9.out V9.out (by decide) (by decide)); have E10 := Lib.hid (hF.block M9.out E9.out (by decide) (by decide)); clear hM hF)
              | (go_at_call 118; refine (HRE.out _ gb ib (WW k) wv sv src i M4.out HSR.out HS1.out HIN2.out l1 l2).mono ?_; rintro e w9 ⟨rfl, wv2, sv2, hM, hF⟩; have M9 := Lib.hid hM; have V9 := Lib.hid (hF.block M4.out V4.out (by decide) (by decide)); have E9 := Lib.hid (hF.block M4.out E4.out (by decide) (by decide)); have c14 := cell_of_block V9.out 0 _ rfl; have c15 := cell_of_block (hF.newer HM.out A4.out (Nat.le_refl _)) 0 _ rfl; clear hM hF)
              | (go_at_call 115; refine HC.out.mono ?_; rintro e w4 ⟨rfl, hb4⟩; have M4 := Lib.hid (M2.out.more hb4); have V4 := Lib.hid (bheap hb4 V2.out); have E4 := Lib.hid (bheap hb4 E2.out); have A4 := Lib.hid (bheap hb4 A2.out); have c12 := cell_of_block V4.out 0 _ rfl; clear hb4))
            go_roundg (A - (k + 1))
            case measure => omega
            case rel => exact ⟨k + 1, wv3, sv3, by omega, by simp, Lib.hid (by rw [E.out]; exact M10.out), V10, E10⟩
        · obtain rfl : k = A := by omega
          have c13 := cell_of_block HV.out 0 _ rfl
          go_wp2_with (go_at_call 118; refine (HRE.out _ gb ib (WW k) wv sv src home HM.out HSR.out HS1.out HHM.out l1 l2).mono ?_; rintro e w9 ⟨rfl, wv2, sv2, hM, hF⟩; have M9 := Lib.hid hM; have V9 := Lib.hid (hF.block HM.out HV.out (by decide) (by decide)); have c14 := cell_of_block V9.out 0 _ rfl; clear hM hF)
          refine bodyPost_ret (v := .tuple #[.pointer (some ⟨gb, 0, none⟩), .bool true]) (by simp [results, Try.results100, go_sem]) rfl ?_
          exact ⟨gb, ib, _, _, _, wv2, sv2, rfl, M9.out⟩
end Go.Proofs.Ytnlaonppgebpoaa
