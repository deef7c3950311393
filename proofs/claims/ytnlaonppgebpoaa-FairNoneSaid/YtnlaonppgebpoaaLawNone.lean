/-
  spinnakerlaw18.FairNone: the walk.
-/
import Derived.Test.YtnlaonppgebpoaaLawFound
import Derived.Test.YtnlaonppgebpoaaFairNodes
import Derived.Test.YtnlaonppgebpoaaRelTail
namespace Go.Proofs.Ytnlaonppgebpoaa
open Go.RowKit

/-- whether some of the numbers from 1 to k - 1 are so -/
def someB (p : Nat → Bool) (k : Nat) : Bool := (List.range k).any (fun b => decide (0 < b) && p b)
theorem someB_one (p : Nat → Bool) : someB p 1 = false := by simp [someB]
theorem someB_succ (p : Nat → Bool) {k : Nat} (hk : 0 < k) : someB p (k + 1) = (someB p k || p k) := by
  unfold someB
  rw [List.range_succ, List.any_append]
  simp [hk]
theorem someB_iff {p : Nat → Bool} {k : Nat} : someB p k = true ↔ ∃ b, 0 < b ∧ b < k ∧ p b = true := by
  unfold someB
  rw [List.any_eq_true]
  constructor
  · rintro ⟨b, h1, h2⟩
    rw [Bool.and_eq_true, decide_eq_true_iff] at h2
    exact ⟨b, h2.1, List.mem_range.1 h1, h2.2⟩
  · rintro ⟨b, h1, h2, h3⟩
    exact ⟨b, List.mem_range.2 h2, by rw [Bool.and_eq_true, decide_eq_true_iff]; exact ⟨h1, h3⟩⟩
theorem found_some {g : Gr} {en : List (List Bool)} {ag : Int} (hR : RT g en ag) (hn : g.S.length ≤ 100000) {how : Int} (hh : how = 1 ∨ how = 2) : someB (fun b => goodB g en ag how (nodesL b en.length)) (2 ^ en.length) = decide (0 < (findL g en ag how).length) := by
  rw [hR.len, Bool.eq_iff_iff, someB_iff, decide_eq_true_iff]
  rw [← find_bits hR hn hh]
set_option maxRecDepth 100000 in
set_option maxHeartbeats 64000000 in
theorem fairNone (v : Value) (g : Gr) (en : List (List Bool)) (ag : Int) (w : World) (h : TabArg w v g en ag) :
    Calls Try.prog 16 #[v] w fun e w' => e = .returned (.bool true) ∧ Below w.heap.size w w' := by
  have HLT := Lib.hid (fun (w' : World) (hb : Below w.heap.size w w') => tlight_ok v g en ag w' (h.below hb))
  obtain ⟨sa, aa, ta, sc, ac, tc, ua, uc, rfl, hg, hu⟩ := h.var
  have S0 := Lib.hid (BxSt.start w #[.slice sa g.S.length sc, .slice aa g.A.length ac, .slice ta g.T.length tc, .slice ua en.length uc, .int .i64 ag] 55)
  cases hl : litT g en ag
  · rw [hl] at HLT
    clear h hg hu hl
    go_enter Try.func16, Try.ntmps16
    go_wp2_with (first
      | (go_at_call 52; refine (HLT.out _ S0.out.below).mono ?_; rintro e w1 ⟨rfl, hb⟩; have S1 := Lib.hid (S0.out.more hb); clear hb)
      | (go_at_call 53; refine (known18 _).mono ?_; rintro e w2 ⟨rfl, hb⟩; have S2 := Lib.hid (S1.out.more hb); clear hb))
    go_ret
    exact ⟨rfl, S2.out.below⟩
  rw [hl] at HLT
  have hL := litT_spec hl
  have hGA : GraphAt w (.agg #[.slice sa g.S.length sc, .slice aa g.A.length ac, .slice ta g.T.length tc]) g := hg.small (by omega) (by omega) (by omega)
  have HR := Lib.hid (fun (w' : World) (hb : Below w.heap.size w w') => rrt_ok _ _ g en ag w' (hGA.below hb) (hu.below hb))
  cases hr : rtB g en ag
  · rw [hr] at HR
    clear h hg hu hl hL hGA hr
    go_enter Try.func16, Try.ntmps16
    go_wp2_with (first
      | (go_at_call 52; refine (HLT.out _ S0.out.below).mono ?_; rintro e w1 ⟨rfl, hb⟩; have S1 := Lib.hid (S0.out.more hb); have c0 := cell_of_block S1.out.blk 0 _ rfl; have c1 := cell_of_block S1.out.blk 1 _ rfl; have c2 := cell_of_block S1.out.blk 2 _ rfl; have c3 := cell_of_block S1.out.blk 3 _ rfl; have c4 := cell_of_block S1.out.blk 4 _ rfl; clear hb)
      | (go_at_call 60; refine (HR.out _ S1.out.below).mono ?_; rintro e w2 ⟨rfl, hb⟩; have S2 := Lib.hid (S1.out.more hb); clear hb)
      | (go_at_call 53; refine (known18 _).mono ?_; rintro e w3 ⟨rfl, hb⟩; have S3 := Lib.hid (S2.out.more hb); clear hb))
    go_ret
    exact ⟨rfl, S3.out.below⟩
  rw [hr] at HR
  by_cases h7 : (7 : Int) < (en.length : Int)
  · clear h hg hu hl hL hGA hr
    go_enter Try.func16, Try.ntmps16
    go_wp2_with (first
      | (go_at_call 52; refine (HLT.out _ S0.out.below).mono ?_; rintro e w1 ⟨rfl, hb⟩; have S1 := Lib.hid (S0.out.more hb); have c0 := cell_of_block S1.out.blk 0 _ rfl; have c1 := cell_of_block S1.out.blk 1 _ rfl; have c2 := cell_of_block S1.out.blk 2 _ rfl; have c3 := cell_of_block S1.out.blk 3 _ rfl; have c4 := cell_of_block S1.out.blk 4 _ rfl; clear hb)
      | (go_at_call 60; refine (HR.out _ S1.out.below).mono ?_; rintro e w2 ⟨rfl, hb⟩; have S2 := Lib.hid (S1.out.more hb); clear c0 c1 c2 c3 c4; have c0 := cell_of_block S2.out.blk 0 _ rfl; have c1 := cell_of_block S2.out.blk 1 _ rfl; have c2 := cell_of_block S2.out.blk 2 _ rfl; have c3 := cell_of_block S2.out.blk 3 _ rfl; have c4 := cell_of_block S2.out.blk 4 _ rfl; clear hb)
      | (go_at_call 53; refine (known18 _).mono ?_; rintro e w3 ⟨rfl, hb⟩; have S3 := Lib.hid (S2.out.more hb); clear hb))
    go_ret
    exact ⟨rfl, S3.out.below⟩
  have hRT := rtB_rt hr
  have hn : nodesN g ≤ 100000 := by have := nodes_len (g := g); omega
  have hS : g.S.length ≤ 100000 := by omega
  obtain ⟨P, hP⟩ : ∃ P, 2 ^ en.length = P := ⟨_, rfl⟩
  have hP1 : P ≤ 128 := by rw [← hP]; exact Nat.pow_le_pow_right (n := 2) (by omega) (show en.length ≤ 7 by omega)
  have hP0 : 0 < P := by rw [← hP]; exact Nat.pow_pos (by omega)
  have HF := Lib.hid (fun (w' : World) (hb : Below w.heap.size w w') (how : Int) => find_ok _ _ g en ag how w' (hGA.below hb) (hu.below hb) hn)
  have HGD := Lib.hid (fun (w' : World) (hb : Below w.heap.size w w') (how : Int) (pv : Value) (p : List Int) (hp : IntsAt w' pv p) (hpl : p.length ≤ 1000000) => rgood_ok _ _ pv g en ag how p w' (hGA.below hb) (hu.below hb) hp hpl hn)
  have HNL := Lib.hid (fun b => nodesL_len b en.length)
  have HND := Lib.hid (fun (b : Nat) (w' : World) (hb : b ≤ 1000000) => bitnodes_ok b en.length w' (by omega) hb)
  have HFS : Hid (∀ how : Int, how = 1 ∨ how = 2 → someB (fun b => goodB g en ag how (nodesL b en.length)) P = decide (0 < (findL g en ag how).length)) := Lib.hid (fun how hh => by rw [← hP]; exact found_some hRT hS hh)
  have hsh : IntKind.i64.wrap ((2 : Int) ^ en.length) = (P : Int) := by
    rw [show ((2 : Int) ^ en.length) = ((2 ^ en.length : Nat) : Int) by simp, hP]
    exact IntWalk.i64_in _ (by omega)
  obtain ⟨SO, hSO⟩ : ∃ f : Int → Nat → Bool, ∀ how k, f how k = someB (fun b => goodB g en ag how (nodesL b en.length)) k := ⟨fun how k => someB (fun b => goodB g en ag how (nodesL b en.length)) k, fun _ _ => rfl⟩
  have SO1 : Hid (∀ how, SO how 1 = false) := Lib.hid (fun how => by rw [hSO]; exact someB_one _)
  have SOS : Hid (∀ how k, 0 < k → SO how (k + 1) = (SO how k || goodB g en ag how (nodesL k en.length))) := Lib.hid (fun how k hk => by rw [hSO, hSO]; exact someB_succ _ hk)
  simp only [← hSO] at HFS
  clear h hg hu hl hL hGA hr hRT hn hS hP hSO
  generalize goodB g en ag = GB at *
  generalize findL g en ag = FL at *
  obtain ⟨NO, hNO⟩ : ∃ f : Nat → List Int, ∀ b, f b = nodesL b en.length := ⟨fun b => nodesL b en.length, fun _ => rfl⟩
  simp only [← hNO] at HNL HND SOS
  clear hNO
  obtain ⟨n, hnn⟩ : ∃ n, en.length = n := ⟨_, rfl⟩
  have hn7 : n ≤ 7 := by omega
  rw [hnn] at S0 HLT HR HF HGD HNL HND hsh h7 ⊢
  clear hnn
  go_enter Try.func16, Try.ntmps16
  go_wp2_with (first
    | (go_at_call 52; refine (HLT.out _ S0.out.below).mono ?_; rintro e w1 ⟨rfl, hb⟩; have S1 := Lib.hid (S0.out.more hb); have c0 := cell_of_block S1.out.blk 0 _ rfl; have c1 := cell_of_block S1.out.blk 1 _ rfl; have c2 := cell_of_block S1.out.blk 2 _ rfl; have c3 := cell_of_block S1.out.blk 3 _ rfl; have c4 := cell_of_block S1.out.blk 4 _ rfl; clear hb)
    | (go_at_call 60; refine (HR.out _ S1.out.below).mono ?_; rintro e w2 ⟨rfl, hb⟩; have S2 := Lib.hid (S1.out.more hb); clear c0 c1 c2 c3 c4; have c0 := cell_of_block S2.out.blk 0 _ rfl; have c1 := cell_of_block S2.out.blk 1 _ rfl; have c2 := cell_of_block S2.out.blk 2 _ rfl; have c3 := cell_of_block S2.out.blk 3 _ rfl; have c4 := cell_of_block S2.out.blk 4 _ rfl; clear hb))
  clear c0 c1 c2 c3 c4
  go_loopg [4] 2 (fun fu c wr => ∃ k : Nat, k + fu = 2 ∧ c = .int .i64 ((k : Int) + 1) ∧ Hid (BxSt w wr #[.slice sa g.S.length sc, .slice aa g.A.length ac, .slice ta g.T.length tc, .slice ua n uc, .int .i64 ag] 55))
  case atStart => exact ⟨0, by omega, rfl, S2⟩
  case round =>
    clear S2
    obtain ⟨k, hk, rfl, S2⟩ := hrel
    by_cases hlt : k < 2
    · have z1 : (k : Int) + 1 ≤ 2 := by omega
      have hhow : ((k : Int) + 1) = 1 ∨ ((k : Int) + 1) = 2 := by omega
      have HFS2 := Lib.hid (HFS.out _ hhow)
      obtain ⟨how, hhw⟩ : ∃ z : Int, (k : Int) + 1 = z := ⟨_, rfl⟩
      have HHW := Lib.hid hhw
      rw [hhw] at z1 HFS2
      rw [hhw]
      have SO1' := Lib.hid (SO1.out how)
      have SOS' := Lib.hid (SOS.out how)
      have HGD' := Lib.hid (fun w' hb => HGD.out w' hb how)
      clear hhow hhw
      have c0 := cell_of_block S2.out.blk 0 _ rfl
      have c1 := cell_of_block S2.out.blk 1 _ rfl
      have c2 := cell_of_block S2.out.blk 2 _ rfl
      have c3 := cell_of_block S2.out.blk 3 _ rfl
      have c4 := cell_of_block S2.out.blk 4 _ rfl
      go_wp2_with (go_at_call 58; refine (HF.out _ S2.out.below how).mono ?_; rintro e w3 ⟨rv, rfl, ⟨ra, rc, rfl, -⟩, hb⟩; have S3 := Lib.hid (S2.out.more hb); clear hb)
      have hfk : (FL how).length = (FL how).length := rfl
      clear hfk
      generalize hFD : decide (0 < (FL how).length) = FD at *
      clear hFD c0 c1 c2 c3 c4 S2
      go_loopg [6, 7] (P - 1) (fun fu sv c wr => ∃ b : Nat, 0 < b ∧ b + fu = P ∧ c = .int .i64 (b : Nat) ∧ sv = .bool (SO how b) ∧ Hid (BxSt w wr #[.slice sa g.S.length sc, .slice aa g.A.length ac, .slice ta g.T.length tc, .slice ua n uc, .int .i64 ag] 55))
      case atStart => exact ⟨1, by omega, by omega, rfl, by rw [SO1'.out], S3⟩
      case round =>
        clear S3
        obtain ⟨b, hb0, hbk, rfl, rfl, S4⟩ := hrel
        by_cases hlt2 : b < P
        · have z2 : (b : Int) < (P : Int) := by omega
          have HSB := Lib.hid (SOS'.out b hb0)
          have c0 := cell_of_block S4.out.blk 0 _ rfl
          have c1 := cell_of_block S4.out.blk 1 _ rfl
          have c2 := cell_of_block S4.out.blk 2 _ rfl
          have c3 := cell_of_block S4.out.blk 3 _ rfl
          have c4 := cell_of_block S4.out.blk 4 _ rfl
          cases hso : SO how b
          · rw [hso] at HSB
            have E : Hid (SO how (b + 1) = GB how (NO b)) := Lib.hid (by rw [HSB.out]; simp)
            clear HSB hso
            go_wp2_with fail
            have HBL : Hid (b ≤ 1000000) := Lib.hid (by omega)
            have HNB : Hid ((NO b).length ≤ 1000000) := Lib.hid (by have := HNL.out b; omega)
            refine region_rel_tail 14 (fun q => match q with | 51 => u51 | 52 => u52 | 53 => u53 | 54 => u54 | 55 => u55 | 56 => u56 | 57 => u57 | 58 => u58 | 59 => u59 | 60 => u60 | 61 => u61 | 62 => u62 | 63 => u63 | 64 => u64 | _ => undef)
              (fun f => { tmps := #[.agg #[.slice sa g.S.length sc, .slice aa g.A.length ac, .slice ta g.T.length tc, .slice ua n uc, .int .i64 ag], .pointer (some ⟨w.heap.size, 0, none⟩), u2, .int .i64 (n : Nat), .int .i64 how, .bool FD, .bool false, .int .i64 (b : Nat), .agg #[.slice sa g.S.length sc, .slice aa g.A.length ac, .slice ta g.T.length tc, .slice ua n uc, .int .i64 ag], .bool true, .bool false, .bool false, .pointer (some ⟨w.heap.size, 0, none⟩), .agg #[.slice sa g.S.length sc, .slice aa g.A.length ac, .slice ta g.T.length tc], .pointer (some ⟨w.heap.size, 3, none⟩), .slice ua n uc, .pointer (some ⟨w.heap.size, 4, none⟩), .int .i64 ag, .bool true, .bool false, .bool false, .bool false, .pointer (some ⟨w.heap.size, 3, none⟩), .slice ua n uc, .int .i64 (n : Nat), .bool (decide ((7 : Int) < (n : Nat))), .bool (decide ((7 : Int) < (n : Nat))), undef, .pointer (some ⟨w.heap.size, 3, none⟩), .slice ua n uc, .int .i64 (n : Nat), .int .i64 how, .bool true, u33, u34, .pointer (some ⟨w.heap.size, 0, none⟩), .agg #[.slice sa g.S.length sc, .slice aa g.A.length ac, .slice ta g.T.length tc], .pointer (some ⟨w.heap.size, 3, none⟩), .slice ua n uc, .pointer (some ⟨w.heap.size, 4, none⟩), .int .i64 ag, .int .i64 how, .slice ra (FL how).length rc, .int .i64 ((FL how).length : Nat), .bool FD, .int .i64 (b : Nat), .int .i64 (n : Nat), .int .i64 (P : Nat), .bool true, u49, u50, f 51, f 52, f 53, f 54, f 55, f 56, f 57, f 58, f 59, f 60, f 61, f 62, f 63, f 64, u65, u66, u67, undef], defers := [] }) (fun j => j + 51)
              (relL [.eq (.bool false), .eq (.bool false), .eq (.pointer (some ⟨w.heap.size, 0, none⟩)), .eq (.agg #[.slice sa g.S.length sc, .slice aa g.A.length ac, .slice ta g.T.length tc]), .eq (.pointer (some ⟨w.heap.size, 3, none⟩)), .eq (.slice ua n uc), .eq (.pointer (some ⟨w.heap.size, 4, none⟩)), .eq (.int .i64 ag), .eq (.int .i64 how), .eq (.int .i64 (b : Nat)), .eq (.int .i64 (n : Nat)), .ints (NO b), .eq (.bool (GB how (NO b))), .eq (.bool (GB how (NO b)))])
              rfl (by kernel_rfl) (by kernel_rfl) (by kernel_rfl) (by decide) (by kernel_rfl) (fun i u w w' hb h => RK.mono _ hb h) (by kernel_rfl) (by kernel_rfl) ?_ ?_ ?_
            · intro j hj f v
              rcases j with _ | _ | _ | _ | _ | _ | _ | _ | _ | _ | _ | _ | _ | _ | j
              all_goals first | rfl | omega | (simp at hj; omega)
            · refine ⟨?_, ?_, ?_, ?_, ?_, ?_, ?_, ?_, ?_, ?_, ?_, ?_, ?_, ?_, trivial⟩
              · intro f w' hb hd K hK
                dsimp only
                go_simp
                exact hK (.bool false) w' (Below.refl _ _) rfl
              · intro f w' hb hd K hK
                have h0 : f 51 = (.bool false) := hd 0 (by kernel_rfl)
                dsimp only
                go_simp
                have q := hK (.bool false) w' (Below.refl _ _) rfl
                simp only [h0] at q
                exact q
              · intro f w' hb hd K hK
                have hg : f 52 = .bool false := hd 1 (by kernel_rfl)
                dsimp only
                go_simp
                have q := hK (.pointer (some ⟨w.heap.size, 0, none⟩)) w' (Below.refl _ _) rfl
                simp only [hg] at q
                exact q
              · intro f w' hb hd K hK
                have hg : f 52 = .bool false := hd 1 (by kernel_rfl)
                have h0 : f 53 = (.pointer (some ⟨w.heap.size, 0, none⟩)) := hd 2 (by kernel_rfl)
                have e0 := bkeep hb c0
                have e1 := bkeep hb c1
                have e2 := bkeep hb c2
                dsimp only
                go_simp
                have q := hK (.agg #[.slice sa g.S.length sc, .slice aa g.A.length ac, .slice ta g.T.length tc]) w' (Below.refl _ _) rfl
                simp only [hg, h0] at q
                exact q
              · intro f w' hb hd K hK
                have hg : f 52 = .bool false := hd 1 (by kernel_rfl)
                dsimp only
                go_simp
                have q := hK (.pointer (some ⟨w.heap.size, 3, none⟩)) w' (Below.refl _ _) rfl
                simp only [hg] at q
                exact q
              · intro f w' hb hd K hK
                have hg : f 52 = .bool false := hd 1 (by kernel_rfl)
                have h0 : f 55 = (.pointer (some ⟨w.heap.size, 3, none⟩)) := hd 4 (by kernel_rfl)
                have e0 := bkeep hb c3
                dsimp only
                go_simp
                have q := hK (.slice ua n uc) w' (Below.refl _ _) rfl
                simp only [hg, h0] at q
                exact q
              · intro f w' hb hd K hK
                have hg : f 52 = .bool false := hd 1 (by kernel_rfl)
                dsimp only
                go_simp
                have q := hK (.pointer (some ⟨w.heap.size, 4, none⟩)) w' (Below.refl _ _) rfl
                simp only [hg] at q
                exact q
              · intro f w' hb hd K hK
                have hg : f 52 = .bool false := hd 1 (by kernel_rfl)
                have h0 : f 57 = (.pointer (some ⟨w.heap.size, 4, none⟩)) := hd 6 (by kernel_rfl)
                have e0 := bkeep hb c4
                dsimp only
                go_simp
                have q := hK (.int .i64 ag) w' (Below.refl _ _) rfl
                simp only [hg, h0] at q
                exact q
              · intro f w' hb hd K hK
                have hg : f 52 = .bool false := hd 1 (by kernel_rfl)
                dsimp only
                go_simp
                have q := hK (.int .i64 how) w' (Below.refl _ _) rfl
                simp only [hg] at q
                exact q
              · intro f w' hb hd K hK
                have hg : f 52 = .bool false := hd 1 (by kernel_rfl)
                dsimp only
                go_simp
                have q := hK (.int .i64 (b : Nat)) w' (Below.refl _ _) rfl
                simp only [hg] at q
                exact q
              · intro f w' hb hd K hK
                have hg : f 52 = .bool false := hd 1 (by kernel_rfl)
                dsimp only
                go_simp
                have q := hK (.int .i64 (n : Nat)) w' (Below.refl _ _) rfl
                simp only [hg] at q
                exact q
              · intro f w' hb hd K hK
                have hg : f 52 = .bool false := hd 1 (by kernel_rfl)
                have h0 : f 60 = (.int .i64 (b : Nat)) := hd 9 (by kernel_rfl)
                have h1 : f 61 = (.int .i64 (n : Nat)) := hd 10 (by kernel_rfl)
                have HO := Lib.hid (HND.out b w' HBL.out)
                dsimp only
                go_simp
                go_wp2_with (go_at_call 65; refine HO.out.mono ?_; rintro e w2 ⟨lv, rfl, hE, hb2⟩)
                have q := hK lv w2 hb2 hE
                simp only [hg, h0, h1] at q
                exact q
              · intro f w' hb hd K hK
                have hg : f 52 = .bool false := hd 1 (by kernel_rfl)
                have h0 : f 54 = (.agg #[.slice sa g.S.length sc, .slice aa g.A.length ac, .slice ta g.T.length tc]) := hd 3 (by kernel_rfl)
                have h1 : f 56 = (.slice ua n uc) := hd 5 (by kernel_rfl)
                have h2 : f 58 = (.int .i64 ag) := hd 7 (by kernel_rfl)
                have h3 : f 59 = (.int .i64 how) := hd 8 (by kernel_rfl)
                have r0 : IntsAt w' (f 62) (NO b) := hd 11 (by kernel_rfl)
                have HO := Lib.hid (HGD'.out w' (S4.out.more ((Below.refl _ wr).drew.trans hb)).below (f 62) (NO b) r0 HNB.out)
                clear r0
                dsimp only
                go_simp
                go_wp2_with (go_at_call 62; refine HO.out.mono ?_; rintro e w2 ⟨rfl, hb2⟩)
                have q := hK (.bool (GB how (NO b))) w2 hb2 rfl
                simp only [hg, h0, h1, h2, h3] at q
                exact q
              · intro f w' hb hd K hK
                have h0 : f 52 = (.bool false) := hd 1 (by kernel_rfl)
                have h1 : f 63 = (.bool (GB how (NO b))) := hd 12 (by kernel_rfl)
                dsimp only
                go_simp
                have q := hK (.bool (GB how (NO b))) w' (Below.refl _ _) rfl
                simp only [h0, h1] at q
                exact q
            · intro f w' hb hr
              have h64 : f 64 = (.bool (GB how (NO b))) := hr 13 (by decide)
              have S6 := Lib.hid (S4.out.more hb)
              clear hr hb
              simp only [h64, List.drop_succ_cons, List.drop_zero]
              generalize f 51 = x51
              generalize f 52 = x52
              generalize f 53 = x53
              generalize f 54 = x54
              generalize f 55 = x55
              generalize f 56 = x56
              generalize f 57 = x57
              generalize f 58 = x58
              generalize f 59 = x59
              generalize f 60 = x60
              generalize f 61 = x61
              generalize f 62 = x62
              generalize f 63 = x63
              go_wp2_with fail
              go_roundg (P - (b + 1))
              case measure => omega
              case rel => exact ⟨b + 1, by omega, by omega, by simp, by rw [E.out], S6⟩
          · rw [hso] at HSB
            have E : Hid (SO how (b + 1) = true) := Lib.hid (by rw [HSB.out]; simp)
            clear HSB hso
            go_wp2_with fail
            refine region_below (by kernel_rfl) (by kernel_rfl) ?_
            repeat (go_big_quiet_step (fail))
            refine wpQuiet_nil ?_
            intro w6 hb6
            have S6 := Lib.hid (S4.out.more hb6)
            clear hb6
            go_wp2_with fail
            go_roundg (P - (b + 1))
            case measure => omega
            case rel => exact ⟨b + 1, by omega, by omega, by simp, by rw [E.out], S6⟩
        · obtain rfl : b = P := by omega
          rw [HFS2.out]
          go_wp2_with fail
          go_roundg (2 - (k + 1))
          case measure => omega
          case rel => exact ⟨k + 1, by omega, by rw [← HHW.out, IntWalk.wrap64_in ((k : Int) + 1 + 1) (by omega)]; simp, S4⟩
    · obtain rfl : k = 2 := by omega
      go_wp2_with (go_at_call 53; refine (known18 _).mono ?_; rintro e w3 ⟨rfl, hb⟩; have S3 := Lib.hid (S2.out.more hb); clear hb)
      go_ret
      exact ⟨rfl, S3.out.below⟩
end Go.Proofs.Ytnlaonppgebpoaa
