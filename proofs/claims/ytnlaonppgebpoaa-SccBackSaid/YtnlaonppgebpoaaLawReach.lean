/-
  spinnakerlaw14.EdgesReach: the walk.
-/
import Derived.Test.YtnlaonppgebpoaaKnown14
import Derived.Test.YtnlaonppgebpoaaArgs
namespace Go.Proofs.Ytnlaonppgebpoaa
open Go.RowKit

theorem reachL_closed {g : Gr} (h : Rt g) (fr : List Int) {e : Ed} (he : e ∈ allL g) {f t : Nat} (hf : e.1 = (f : Int)) (ht : e.2.2 = (t : Int)) (hfn : f < nodesN g) (htn : t < nodesN g) (hr : (reachL g fr).getD f false = true) : (reachL g fr).getD t false = true := by
  rw [reachL_get h fr hfn] at hr
  rw [reachL_get h fr htn, ← ht]
  exact .step (by rw [hf]; exact hr) he
theorem reachL_has {g : Gr} (h : Rt g) (fr : List Int) {i : Nat} (hi : i < nodesN g) (hm : (i : Int) ∈ fr) : (reachL g fr).getD i false = true := by
  rw [reachL_get h fr hi]
  exact .base ⟨hm, by omega, by omega⟩
theorem reachL_mono {g : Gr} (h : Rt g) {fr fs : List Int} (hs : ∀ x ∈ fr, x ∈ fs) {i : Nat} (hi : i < nodesN g) (hr : (reachL g fr).getD i false = true) : (reachL g fs).getD i false = true := by
  rw [reachL_get h _ hi] at hr ⊢
  exact hr.mono (fun _ h => h) (fun x ⟨a, b, c⟩ => ⟨hs x a, b, c⟩)
theorem reachL_none {g : Gr} (h : Rt g) {i : Nat} (hi : i < nodesN g) : (reachL g []).getD i false = false := by
  cases e : (reachL g []).getD i false
  · rfl
  · rw [reachL_get h _ hi] at e
    exfalso
    have : ∀ x, ¬ Rch (allL g) (Src (nodesN g) []) x := by
      intro x hx
      induction hx with
      | base h' => simp [Src] at h'
      | step _ _ ih => exact ih
    exact this _ e

/-- a law's graph in its variable -/
structure VarSt (w wr : World) (gc : Array Value) : Prop where
  below : Below w.heap.size w wr
  vg : wr.heap[w.heap.size]? = some (.cells gc 26 (0, 0))
theorem VarSt.more {w wr w' : World} {gc : Array Value} (h : VarSt w wr gc) (hb : Below wr.heap.size wr w') : VarSt w w' gc := ⟨h.below.trans (hb.mono h.below.size), bheap hb h.vg⟩
theorem varst_start (w : World) (gc : Array Value) : VarSt w (w.alloc (.cells gc 26)) gc := ⟨balloc w _, heap_alloc_new w _⟩
theorem VarSt.drew {w wr : World} {gc : Array Value} (h : VarSt w wr gc) : VarSt w wr.drew gc := ⟨h.below.drew, h.vg⟩
theorem intsAt_take {w : World} {a : Option Addr} {cap : Nat} {l : List Int} (h : ∀ j, j < l.length → ∃ b off, a = some ⟨b, off, none⟩ ∧ w.cell? ⟨b, off + j, none⟩ = some (.int .i64 (l.getD j 0))) (q : Nat) (hq : q ≤ l.length) : IntsAt w (.slice a q cap) (l.take q) := by
  have hl : (l.take q).length = q := by simp; omega
  refine ⟨a, cap, by rw [hl], fun j hj => ?_⟩
  rw [hl] at hj
  obtain ⟨b, off, e, c⟩ := h j (by omega)
  refine ⟨b, off, e, ?_⟩
  rw [c]
  simp [List.getD, hj]
theorem boolsAt_len {w : World} {v : Value} {l : List Bool} (h : BoolsAt w v l) {n : Nat} (hn : l.length = n) : ∃ a cap, v = .slice a n cap ∧ ∀ j, j < n → ∃ b off, a = some ⟨b, off, none⟩ ∧ w.cell? ⟨b, off + j, none⟩ = some (.bool (l.getD j false)) := by
  subst hn; exact h
theorem edgesAt_var {w : World} {v : Value} {l : List Ed} (h : EdgesAt w v l) : ∃ a cap, v = .slice a l.length cap := let ⟨a, cap, e, _⟩ := h; ⟨a, cap, e⟩

set_option maxRecDepth 100000 in
set_option maxHeartbeats 16000000 in
theorem lawReach (v u : Value) (g : Gr) (fr : List Int) (w : World) (hG : GraphArg w v g) (hI : IntsAt w u fr) (hfl : fr.length ≤ 9223372036854775807) (hcap : ∃ a len cap, u = .slice a len cap ∧ len ≤ cap ∧ cap ≤ 9223372036854775807 ∧ (a = none → cap = 0)) :
    Calls Try.prog 6 #[v, u] w fun e w' => e = .returned (.bool true) ∧ Below w.heap.size w w' := by
  obtain ⟨sa, aa, ta, sc, ac, tc, rfl⟩ := hG.var
  obtain ⟨fa, fc, rfl, hf⟩ := hI
  obtain ⟨a', len', cap', e, hlc, hcm, hnil⟩ := hcap
  cases e
  have hs := varst_start w #[.slice sa g.S.length sc, .slice aa g.A.length ac, .slice ta g.T.length tc]
  have HL := Lib.hid (hG.below hs.below).light
  have HS := Lib.hid hs
  cases hlit : lit3 g.S.length g.T.length g.A.length
  · rw [hlit] at HL
    clear hG hf hs hlit
    go_enter Try.func6, Try.ntmps6
    go_wp2_with (first
      | (go_at_call 25; refine HL.out.mono ?_; rintro e w1 ⟨rfl, hb⟩; have S1 := Lib.hid (HS.out.more hb))
      | (go_at_call 20; refine (known14 _).mono ?_; rintro e w5 ⟨rfl, hb⟩; have S5 := Lib.hid (S1.out.more hb)))
    go_ret
    exact ⟨rfl, S5.out.below⟩
  rw [hlit] at HL
  have hAt := hG.at hlit
  have HR := Lib.hid (fun w' (hw : Below w.heap.size w w') => right_ok _ g w' (hAt.below hw))
  cases hr : rightB g
  · rw [hr] at HR
    clear hG hf hs hlit hAt
    go_enter Try.func6, Try.ntmps6
    go_wp2_with (first
      | (go_at_call 25; refine HL.out.mono ?_; rintro e w1 ⟨rfl, hb⟩; have S1 := Lib.hid (HS.out.more hb); have c0 := cell_of_block S1.out.vg 0 _ rfl; have c1 := cell_of_block S1.out.vg 1 _ rfl; have c2 := cell_of_block S1.out.vg 2 _ rfl)
      | (go_at_call 28; refine (HR.out _ S1.out.below).mono ?_; rintro e w2 ⟨rfl, hb2⟩; have S2 := Lib.hid (S1.out.more hb2))
      | (go_at_call 20; refine (known14 _).mono ?_; rintro e w5 ⟨rfl, hb5⟩; have S5 := Lib.hid (S2.out.more hb5)))
    go_ret
    exact ⟨rfl, S5.out.below⟩
  rw [hr] at HR
  by_cases h2 : 200 < fr.length
  · have h3 : (200 : Int) < (fr.length : Int) := by omega
    clear hG hf hs hlit hAt
    go_enter Try.func6, Try.ntmps6
    go_wp2_with (first
      | (go_at_call 25; refine HL.out.mono ?_; rintro e w1 ⟨rfl, hb⟩; have S1 := Lib.hid (HS.out.more hb); have c0 := cell_of_block S1.out.vg 0 _ rfl; have c1 := cell_of_block S1.out.vg 1 _ rfl; have c2 := cell_of_block S1.out.vg 2 _ rfl)
      | (go_at_call 28; refine (HR.out _ S1.out.below).mono ?_; rintro e w2 ⟨rfl, hb2⟩; have S2 := Lib.hid (S1.out.more hb2))
      | (go_at_call 20; refine (known14 _).mono ?_; rintro e w5 ⟨rfl, hb5⟩; have S5 := Lib.hid (S2.out.more hb5)))
    go_ret
    exact ⟨rfl, S5.out.below⟩
  have hR := (rightB_iff g).1 hr
  have hf0 : fr.length ≤ 200 := by omega
  have HN := Lib.hid (fun w' (hw : Below w.heap.size w w') => nodes_ok _ g w' (hAt.below hw))
  have HA := Lib.hid (fun w' (hw : Below w.heap.size w w') => all_any _ g w' (hAt.below hw))
  obtain ⟨q, hq⟩ : ∃ q, fr.length / 2 = q := ⟨_, rfl⟩
  have hqq : q ≤ fr.length := by omega
  have hquo : Int.tdiv (fr.length : Int) 2 = (q : Int) := by rw [← hq]; rfl
  have hdiv : (fr.length : Int) / 2 = (q : Int) := by omega
  have hqw : IntKind.i64.wrap (q : Int) = (q : Int) := IntWalk.i64_in _ (by omega)
  have HE1 := Lib.hid (fun w' (hw : Below w.heap.size w w') => reach_ok _ (.slice fa fr.length fc) g fr w' (hAt.below hw) (IntsAt.below ⟨fa, fc, rfl, hf⟩ hw) (by omega))
  have HE2 := Lib.hid (fun w' (hw : Below w.heap.size w w') => reach_ok _ (.slice fa q fc) g (fr.take q) w' (hAt.below hw) ((intsAt_take hf q hqq).below hw) (by simp; omega))
  have HE3 := Lib.hid (fun w' (hw : Below w.heap.size w w') => reach_ok _ (.slice none 0 0) g [] w' (hAt.below hw) (intsAt_nil w') (by simp))
  have PC := Lib.hid (fun k (hk : k < (allL g).length) => show ∃ f t : Nat, ((allL g).getD k (0, 0, 0)).1 = (f : Int) ∧ ((allL g).getD k (0, 0, 0)).2.2 = (t : Int) ∧ f < nodesN g ∧ t < nodesN g ∧ ((reachL g fr).getD f false = true → (reachL g fr).getD t false = true) from by
    have e : (allL g).getD k (0, 0, 0) = (allL g)[k] := by simp [List.getD, hk]
    have hm := List.getElem_mem hk
    have hq := allL_mem hR hm
    have hnr := nodesN_right hR
    rw [e]
    exact ⟨(allL g)[k].1.toNat, (allL g)[k].2.2.toNat, by omega, by omega, by omega, by omega, reachL_closed hR fr hm (by omega) (by omega) (by omega) (by omega)⟩)
  have PH := Lib.hid (fun k (hk : k < fr.length) i (hi : i < nodesN g) (e : fr.getD k 0 = (i : Int)) => reachL_has hR fr hi (by rw [← e]; simp [List.getD, hk]))
  have PM := Lib.hid (fun i (hi : i < nodesN g) => reachL_mono hR (fr := fr.take q) (fs := fr) (fun x hx => List.mem_of_mem_take hx) hi)
  have PN := Lib.hid (fun i (hi : i < nodesN g) => reachL_none hR hi)
  have hl1 := reachL_len hR fr
  have hl2 := reachL_len hR (fr.take q)
  have hl3 := reachL_len hR []
  have hal : (allL g).length ≤ 1000000 := by rw [allL_len hR]; exact hAt.sT
  have hnn : nodesN g ≤ 1000000 := by rw [nodesN_right hR]; have := hAt.sS; omega
  generalize reachL g (fr.take q) = L at *
  generalize reachL g [] = Z at *
  generalize reachL g fr = R at *
  generalize allL g = l at *
  generalize nodesN g = n at *
  have HF := Lib.hid hf
  have H1 := Lib.hid hl1
  have H2 := Lib.hid hl2
  have H3 := Lib.hid hl3
  have nnf := ne_false (n : Int)
  have hqc : q ≤ fc := by omega
  clear hG hf hs hlit hAt hR hl1 hl2 hl3 hr hq
  rcases fa with _ | fd
  · have hz : fc = 0 := hnil rfl
    have hz1 : fr.length = 0 := by omega
    have hz2 : q = 0 := by omega
    clear hnil
    subst hz hz2
    have hz3 : fr.length ≤ 0 := by omega
    rw [hz1] at HE1 ⊢
    clear hz1 hqw hdiv hquo
    have hw0 : IntKind.i64.wrap 0 = 0 := IntWalk.i64_in _ (by omega)
    go_enter Try.func6, Try.ntmps6
    go_wp2_with (first
      | (go_at_call 25; refine HL.out.mono ?_; rintro e w1 ⟨rfl, hb⟩; have S1 := Lib.hid (HS.out.more hb); have c0 := cell_of_block S1.out.vg 0 _ rfl; have c1 := cell_of_block S1.out.vg 1 _ rfl; have c2 := cell_of_block S1.out.vg 2 _ rfl; clear hb)
      | (go_at_call 28; refine (HR.out _ S1.out.below).mono ?_; rintro e w2 ⟨rfl, hb⟩; have S2 := Lib.hid (S1.out.more hb); clear c0 c1 c2; have c0 := cell_of_block S2.out.vg 0 _ rfl; have c1 := cell_of_block S2.out.vg 1 _ rfl; have c2 := cell_of_block S2.out.vg 2 _ rfl; clear hb)
      | (go_at_call 39; refine (HE1.out _ S2.out.below).mono ?_; rintro e w3 ⟨rv, rfl, hB, hb⟩; have B3 := Lib.hid hB; obtain ⟨ra, rc, rfl, -⟩ := boolsAt_len hB H1.out; have S3 := Lib.hid (S2.out.more hb); clear c0 c1 c2 hB; have c0 := cell_of_block S3.out.vg 0 _ rfl; have c1 := cell_of_block S3.out.vg 1 _ rfl; have c2 := cell_of_block S3.out.vg 2 _ rfl; clear hb)
      | (go_at_call 30; refine (HN.out _ S3.out.below).mono ?_; rintro e w4 ⟨rfl, hb⟩; have B4 := Lib.hid (B3.out.below hb); have S4 := Lib.hid (S3.out.more hb); clear c0 c1 c2; have c0 := cell_of_block S4.out.vg 0 _ rfl; have c1 := cell_of_block S4.out.vg 1 _ rfl; have c2 := cell_of_block S4.out.vg 2 _ rfl; clear hb)
      | (go_at_call 32; refine (HA.out _ S4.out.below).mono ?_; rintro e w5 ⟨lv, rfl, hE, hb⟩; have E5 := Lib.hid hE; obtain ⟨la, lc, rfl⟩ := edgesAt_var hE; have B5 := Lib.hid (B4.out.below hb); have S5 := Lib.hid (S4.out.more hb); clear c0 c1 c2 hE hb))
    obtain ⟨ra', rc', e, hrc⟩ := boolsAt_len B5.out H1.out
    cases e
    obtain ⟨la', lc', e, hle⟩ := E5.out
    cases e
    have HRC := Lib.hid hrc
    have HLE := Lib.hid hle
    clear hrc hle nnf
    go_loopg [8] l.length (fun fu c wr => ∃ k : Nat, k + fu = l.length ∧ c = .int .i64 k ∧ w5 = wr)
    case atStart => exact ⟨0, by omega, rfl, rfl⟩
    case round =>
      obtain ⟨k, hk, rfl, rfl⟩ := hrel
      by_cases hlt : k < l.length
      · obtain ⟨f, t, hf1, ht1, hfn, htn, hcl⟩ := PC.out k hlt
        obtain ⟨b, off, rfl, y1, y2, y3⟩ := HLE.out k hlt
        obtain ⟨b1, o1, rfl, z1⟩ := HRC.out f hfn
        obtain ⟨b2, o2, e, z2⟩ := HRC.out t htn
        cases e
        rw [hf1] at y1
        rw [ht1] at y3
        have i1 : (k : Int) < (l.length : Int) := by omega
        have i2 : (f : Int) < (n : Int) := by omega
        have i3 : (t : Int) < (n : Int) := by omega
        clear y2 hf1 ht1
        cases hx : R.getD f false
        · rw [hx] at z1
          clear hx hcl
          go_wp2_with fail
          go_roundg (gk - 1)
          case measure => omega
          case rel => exact ⟨k + 1, by omega, by simp, rfl⟩
        · rw [hcl hx] at z2
          rw [hx] at z1
          clear hx hcl
          go_wp2_with fail
          go_roundg (gk - 1)
          case measure => omega
          case rel => exact ⟨k + 1, by omega, by simp, rfl⟩
      · obtain rfl : gk = 0 := by omega
        go_wp2_with fail
        clear hlt hk
        go_loopg [9] 0 (fun fu c wr => ∃ k : Nat, k + fu = 0 ∧ c = .int .i64 k ∧ w5 = wr)
        case atStart => exact ⟨0, by omega, rfl, rfl⟩
        case round =>
          obtain ⟨k, hk, rfl, rfl⟩ := hrel
          by_cases hlt : k < fr.length
          · exfalso; omega
          · obtain rfl : gk = 0 := by omega
            have c0 := cell_of_block S5.out.vg 0 _ rfl
            have c1 := cell_of_block S5.out.vg 1 _ rfl
            have c2 := cell_of_block S5.out.vg 2 _ rfl
            go_wp2_with fail
            refine region_tail 6 (by kernel_rfl) (by kernel_rfl) ?_
            simp only [List.take_succ_cons, List.take_zero, List.drop_succ_cons, List.drop_zero]
            repeat still_step
            refine wpStill_nil ?_
            go_wp2_with (first
              | (go_at_call 39; refine (HE2.out _ S5.out.below.drew).mono ?_; rintro e w6 ⟨lv, rfl, hB, hb⟩; have L6 := Lib.hid hB; obtain ⟨ka, kc, rfl, -⟩ := boolsAt_len hB H2.out; have S6 := Lib.hid (S5.out.drew.more hb); have B6 := Lib.hid (BoolsAt.below (w := w5.drew) B5.out hb); clear c0 c1 c2 hB; have c0 := cell_of_block S6.out.vg 0 _ rfl; have c1 := cell_of_block S6.out.vg 1 _ rfl; have c2 := cell_of_block S6.out.vg 2 _ rfl; clear hb))
            obtain ⟨ka', kc', e, hkc⟩ := boolsAt_len L6.out H2.out
            cases e
            obtain ⟨ra', rc', e, hrc⟩ := boolsAt_len B6.out H1.out
            cases e
            have HKC := Lib.hid hkc
            have HRC6 := Lib.hid hrc
            clear hkc hrc
            go_loopg [11] n (fun fu c wr => ∃ k : Nat, k + fu = n ∧ c = .int .i64 k ∧ w6 = wr)
            case atStart => exact ⟨0, by omega, rfl, rfl⟩
            case round =>
              obtain ⟨k, hk, rfl, rfl⟩ := hrel
              by_cases hlt : k < n
              · obtain ⟨b1, o1, rfl, z1⟩ := HKC.out k hlt
                obtain ⟨b2, o2, rfl, z2⟩ := HRC6.out k hlt
                have i1 : (k : Int) < (n : Int) := by omega
                have hpm := PM.out k hlt
                cases hx : L.getD k false
                · rw [hx] at z1
                  clear hx hpm
                  go_wp2_with fail
                  go_roundg (gk - 1)
                  case measure => omega
                  case rel => exact ⟨k + 1, by omega, by simp, rfl⟩
                · rw [hpm hx] at z2
                  rw [hx] at z1
                  clear hx hpm
                  go_wp2_with fail
                  go_roundg (gk - 1)
                  case measure => omega
                  case rel => exact ⟨k + 1, by omega, by simp, rfl⟩
              · obtain rfl : gk = 0 := by omega
                go_wp2_with (first
                  | (go_at_call 39; refine (HE3.out _ S6.out.below).mono ?_; rintro e w7 ⟨nv, rfl, hB, hb⟩; have N7 := Lib.hid hB; obtain ⟨na, nc, rfl, -⟩ := boolsAt_len hB H3.out; have S7 := Lib.hid (S6.out.more hb); clear c0 c1 c2 hB hb))
                clear hlt hk
                obtain ⟨na', nc', e, hnc⟩ := boolsAt_len N7.out H3.out
                cases e
                have HNC := Lib.hid hnc
                clear hnc
                go_loopg [13] n (fun fu c wr => ∃ k : Nat, k + fu = n ∧ c = .int .i64 k ∧ w7 = wr)
                case atStart => exact ⟨0, by omega, rfl, rfl⟩
                case round =>
                  obtain ⟨k, hk, rfl, rfl⟩ := hrel
                  by_cases hlt : k < n
                  · obtain ⟨b1, o1, rfl, z1⟩ := HNC.out k hlt
                    rw [PN.out k hlt] at z1
                    have i1 : (k : Int) < (n : Int) := by omega
                    go_wp2_with fail
                    go_roundg (gk - 1)
                    case measure => omega
                    case rel => exact ⟨k + 1, by omega, by simp, rfl⟩
                  · obtain rfl : gk = 0 := by omega
                    go_wp2_with (first
                      | (go_at_call 20; refine (known14 _).mono ?_; rintro e w8 ⟨rfl, hb⟩; have S8 := Lib.hid (S7.out.more hb)))
                    go_ret
                    exact ⟨rfl, S8.out.below⟩
  · clear hnil
    go_enter Try.func6, Try.ntmps6
    go_wp2_with (first
      | (go_at_call 25; refine HL.out.mono ?_; rintro e w1 ⟨rfl, hb⟩; have S1 := Lib.hid (HS.out.more hb); have c0 := cell_of_block S1.out.vg 0 _ rfl; have c1 := cell_of_block S1.out.vg 1 _ rfl; have c2 := cell_of_block S1.out.vg 2 _ rfl; clear hb)
      | (go_at_call 28; refine (HR.out _ S1.out.below).mono ?_; rintro e w2 ⟨rfl, hb⟩; have S2 := Lib.hid (S1.out.more hb); clear c0 c1 c2; have c0 := cell_of_block S2.out.vg 0 _ rfl; have c1 := cell_of_block S2.out.vg 1 _ rfl; have c2 := cell_of_block S2.out.vg 2 _ rfl; clear hb)
      | (go_at_call 39; refine (HE1.out _ S2.out.below).mono ?_; rintro e w3 ⟨rv, rfl, hB, hb⟩; have B3 := Lib.hid hB; obtain ⟨ra, rc, rfl, -⟩ := boolsAt_len hB H1.out; have S3 := Lib.hid (S2.out.more hb); clear c0 c1 c2 hB; have c0 := cell_of_block S3.out.vg 0 _ rfl; have c1 := cell_of_block S3.out.vg 1 _ rfl; have c2 := cell_of_block S3.out.vg 2 _ rfl; clear hb)
      | (go_at_call 30; refine (HN.out _ S3.out.below).mono ?_; rintro e w4 ⟨rfl, hb⟩; have B4 := Lib.hid (B3.out.below hb); have S4 := Lib.hid (S3.out.more hb); clear c0 c1 c2; have c0 := cell_of_block S4.out.vg 0 _ rfl; have c1 := cell_of_block S4.out.vg 1 _ rfl; have c2 := cell_of_block S4.out.vg 2 _ rfl; clear hb)
      | (go_at_call 32; refine (HA.out _ S4.out.below).mono ?_; rintro e w5 ⟨lv, rfl, hE, hb⟩; have E5 := Lib.hid hE; obtain ⟨la, lc, rfl⟩ := edgesAt_var hE; have B5 := Lib.hid (B4.out.below hb); have S5 := Lib.hid (S4.out.more hb); clear c0 c1 c2 hE hb))
    obtain ⟨ra', rc', e, hrc⟩ := boolsAt_len B5.out H1.out
    cases e
    obtain ⟨la', lc', e, hle⟩ := E5.out
    cases e
    have HRC := Lib.hid hrc
    have HLE := Lib.hid hle
    clear hrc hle nnf
    go_loopg [8] l.length (fun fu c wr => ∃ k : Nat, k + fu = l.length ∧ c = .int .i64 k ∧ w5 = wr)
    case atStart => exact ⟨0, by omega, rfl, rfl⟩
    case round =>
      obtain ⟨k, hk, rfl, rfl⟩ := hrel
      by_cases hlt : k < l.length
      · obtain ⟨f, t, hf1, ht1, hfn, htn, hcl⟩ := PC.out k hlt
        obtain ⟨b, off, rfl, y1, y2, y3⟩ := HLE.out k hlt
        obtain ⟨b1, o1, rfl, z1⟩ := HRC.out f hfn
        obtain ⟨b2, o2, e, z2⟩ := HRC.out t htn
        cases e
        rw [hf1] at y1
        rw [ht1] at y3
        have i1 : (k : Int) < (l.length : Int) := by omega
        have i2 : (f : Int) < (n : Int) := by omega
        have i3 : (t : Int) < (n : Int) := by omega
        clear y2 hf1 ht1
        cases hx : R.getD f false
        · rw [hx] at z1
          clear hx hcl
          go_wp2_with fail
          go_roundg (gk - 1)
          case measure => omega
          case rel => exact ⟨k + 1, by omega, by simp, rfl⟩
        · rw [hcl hx] at z2
          rw [hx] at z1
          clear hx hcl
          go_wp2_with fail
          go_roundg (gk - 1)
          case measure => omega
          case rel => exact ⟨k + 1, by omega, by simp, rfl⟩
      · obtain rfl : gk = 0 := by omega
        go_wp2_with fail
        clear hlt hk
        go_loopg [9] fr.length (fun fu c wr => ∃ k : Nat, k + fu = fr.length ∧ c = .int .i64 k ∧ w5 = wr)
        case atStart => exact ⟨0, by omega, rfl, rfl⟩
        case round =>
          obtain ⟨k, hk, rfl, rfl⟩ := hrel
          by_cases hlt : k < fr.length
          · obtain ⟨b, off, e, d⟩ := HF.out k hlt
            cases e
            have y := bkeep S5.out.below d
            have hph := PH.out k hlt
            have i1 : (k : Int) < (fr.length : Int) := by omega
            clear d
            generalize fr.getD k 0 = x at *
            by_cases t1 : x < 0
            · clear hph
              go_wp2_with fail
              go_roundg (gk - 1)
              case measure => omega
              case rel => exact ⟨k + 1, by omega, by simp, rfl⟩
            by_cases t2 : (n : Int) ≤ x
            · have t3 : ¬ x < (n : Int) := by omega
              clear hph
              go_wp2_with fail
              go_roundg (gk - 1)
              case measure => omega
              case rel => exact ⟨k + 1, by omega, by simp, rfl⟩
            · obtain ⟨i, rfl⟩ : ∃ i : Nat, x = (i : Int) := ⟨x.toNat, by omega⟩
              obtain ⟨b1, o1, rfl, z1⟩ := HRC.out i (by omega)
              rw [hph i (by omega) rfl] at z1
              have i2 : (i : Int) < (n : Int) := by omega
              clear hph
              go_wp2_with fail
              go_roundg (gk - 1)
              case measure => omega
              case rel => exact ⟨k + 1, by omega, by simp, rfl⟩
          · obtain rfl : gk = 0 := by omega
            have c0 := cell_of_block S5.out.vg 0 _ rfl
            have c1 := cell_of_block S5.out.vg 1 _ rfl
            have c2 := cell_of_block S5.out.vg 2 _ rfl
            go_wp2_with fail
            refine region_tail 6 (by kernel_rfl) (by kernel_rfl) ?_
            simp only [List.take_succ_cons, List.take_zero, List.drop_succ_cons, List.drop_zero]
            repeat still_step
            refine wpStill_nil ?_
            go_wp2_with (first
              | (go_at_call 39; refine (HE2.out _ S5.out.below.drew).mono ?_; rintro e w6 ⟨lv, rfl, hB, hb⟩; have L6 := Lib.hid hB; obtain ⟨ka, kc, rfl, -⟩ := boolsAt_len hB H2.out; have S6 := Lib.hid (S5.out.drew.more hb); have B6 := Lib.hid (BoolsAt.below (w := w5.drew) B5.out hb); clear c0 c1 c2 hB; have c0 := cell_of_block S6.out.vg 0 _ rfl; have c1 := cell_of_block S6.out.vg 1 _ rfl; have c2 := cell_of_block S6.out.vg 2 _ rfl; clear hb))
            obtain ⟨ka', kc', e, hkc⟩ := boolsAt_len L6.out H2.out
            cases e
            obtain ⟨ra', rc', e, hrc⟩ := boolsAt_len B6.out H1.out
            cases e
            have HKC := Lib.hid hkc
            have HRC6 := Lib.hid hrc
            clear hkc hrc hdiv hquo hqw
            go_loopg [11] n (fun fu c wr => ∃ k : Nat, k + fu = n ∧ c = .int .i64 k ∧ w6 = wr)
            case atStart => exact ⟨0, by omega, rfl, rfl⟩
            case round =>
              obtain ⟨k, hk, rfl, rfl⟩ := hrel
              by_cases hlt : k < n
              · obtain ⟨b1, o1, rfl, z1⟩ := HKC.out k hlt
                obtain ⟨b2, o2, rfl, z2⟩ := HRC6.out k hlt
                have i1 : (k : Int) < (n : Int) := by omega
                have hpm := PM.out k hlt
                cases hx : L.getD k false
                · rw [hx] at z1
                  clear hx hpm
                  go_wp2_with fail
                  go_roundg (gk - 1)
                  case measure => omega
                  case rel => exact ⟨k + 1, by omega, by simp, rfl⟩
                · rw [hpm hx] at z2
                  rw [hx] at z1
                  clear hx hpm
                  go_wp2_with fail
                  go_roundg (gk - 1)
                  case measure => omega
                  case rel => exact ⟨k + 1, by omega, by simp, rfl⟩
              · obtain rfl : gk = 0 := by omega
                go_wp2_with (first
                  | (go_at_call 39; refine (HE3.out _ S6.out.below).mono ?_; rintro e w7 ⟨nv, rfl, hB, hb⟩; have N7 := Lib.hid hB; obtain ⟨na, nc, rfl, -⟩ := boolsAt_len hB H3.out; have S7 := Lib.hid (S6.out.more hb); clear c0 c1 c2 hB hb))
                clear hlt hk
                obtain ⟨na', nc', e, hnc⟩ := boolsAt_len N7.out H3.out
                cases e
                have HNC := Lib.hid hnc
                clear hnc
                go_loopg [13] n (fun fu c wr => ∃ k : Nat, k + fu = n ∧ c = .int .i64 k ∧ w7 = wr)
                case atStart => exact ⟨0, by omega, rfl, rfl⟩
                case round =>
                  obtain ⟨k, hk, rfl, rfl⟩ := hrel
                  by_cases hlt : k < n
                  · obtain ⟨b1, o1, rfl, z1⟩ := HNC.out k hlt
                    rw [PN.out k hlt] at z1
                    have i1 : (k : Int) < (n : Int) := by omega
                    go_wp2_with fail
                    go_roundg (gk - 1)
                    case measure => omega
                    case rel => exact ⟨k + 1, by omega, by simp, rfl⟩
                  · obtain rfl : gk = 0 := by omega
                    go_wp2_with (first
                      | (go_at_call 20; refine (known14 _).mono ?_; rintro e w8 ⟨rfl, hb⟩; have S8 := Lib.hid (S7.out.more hb)))
                    go_ret
                    exact ⟨rfl, S8.out.below⟩
end Go.Proofs.Ytnlaonppgebpoaa
