/-
  edges.Reach: the walk itself.
-/
import Derived.Test.YtnlaonppgebpoaaReach
import Derived.Laws.EntriesVeiled
namespace Go.Proofs.Ytnlaonppgebpoaa
open Go.RowKit

set_option maxRecDepth 100000 in
set_option maxHeartbeats 4000000 in
theorem reach_not (v u : Value) (g : Gr) (w : World) (h : GraphAt w v g) (hR : rightB g = false) : Calls Try.prog 39 #[v, u] w (BoolsBack w []) := by
  obtain ⟨sa, aa, ta, sc, ac, tc, rfl, -⟩ := h.var
  have hb := balloc w (.cells #[.slice sa g.S.length sc, .slice aa g.A.length ac, .slice ta g.T.length tc] 26)
  have HN := Lib.hid (right_ok _ g _ (h.below hb))
  rw [hR] at HN
  have HB := Lib.hid hb
  clear h hR hb
  go_enter Try.func39, Try.ntmps39
  go_wp2_with (first
    | (go_at_call 28; refine HN.out.mono ?_; rintro e w1 ⟨rfl, hb1⟩; have HB1 := Lib.hid (HB.out.trans (hb1.mono HB.out.size)); clear hb1))
  go_ret
  exact ⟨_, rfl, boolsAt_nil _, HB1.out⟩

set_option maxRecDepth 100000 in
set_option maxHeartbeats 8000000 in
theorem reach_right (v u : Value) (g : Gr) (fr : List Int) (w : World) (h : GraphAt w v g) (hu : IntsAt w u fr) (hR : Rt g) (hfl : fr.length ≤ 1000000) : Calls Try.prog 39 #[v, u] w (BoolsBack w (reachL g fr)) := by
  obtain ⟨sa, aa, ta, sc, ac, tc, rfl, -⟩ := h.var
  obtain ⟨fa, fc, rfl, hf⟩ := hu
  have hE' : ∀ (args : Array Value) (w : World), (callFunc 81 args).run Try.prog w = .ok (.enter 81 args) w := enters_of Try.func81 (by kernel_rfl) rfl
  have hb := balloc w (.cells #[.slice sa g.S.length sc, .slice aa g.A.length ac, .slice ta g.T.length tc] 26)
  have HN := Lib.hid (right_ok _ g _ (h.below hb))
  have HNN := Lib.hid (fun w' (hw : Below w.heap.size w w') => nodes_ok _ g w' (h.below hw))
  rw [(rightB_iff g).2 hR] at HN
  have hn0 := nodesN_right hR
  have hsS := h.sS
  have VI := Lib.hid (visitAll_inv fr (vinv_start g (nodesN g) fr) (fun i hi h0 h1 => .base ⟨hi, h0, h1⟩))
  have X0 := Lib.hid (heap_alloc_new w (.cells #[.slice sa g.S.length sc, .slice aa g.A.length ac, .slice ta g.T.length tc] 26))
  have hnn : nodesN g + 1 ≤ g.S.length := by have := hR.ne; omega
  have VE := Lib.hid (fun out => @vinv_end g hR fr out)
  have VP := Lib.hid (fun out op i => @vinv_pop g hR (nodesN g) rfl fr out op i)
  obtain ⟨n, hn⟩ : ∃ n, nodesN g = n := ⟨_, rfl⟩
  rw [hn] at VI HNN hnn VE VP
  have HB := Lib.hid hb
  have HH := Lib.hid h
  have HR := Lib.hid hR
  have HF := Lib.hid hf
  clear h hR hb hf hn0 hn
  go_enter Try.func39, Try.ntmps39
  go_wp2_with (first
    | (go_at_call 28; refine HN.out.mono ?_; rintro e w1 ⟨rfl, hb1⟩; have d0 := bkeep hb1 (cell_of_block X0.out 0 _ rfl); have d1 := bkeep hb1 (cell_of_block X0.out 1 _ rfl); have d2 := bkeep hb1 (cell_of_block X0.out 2 _ rfl); have HX := Lib.hid (bheap hb1 X0.out); have HB1 := Lib.hid (HB.out.trans (hb1.mono HB.out.size)); have hs1 := hb1.size; clear hb1)
    | (go_at_call 30; refine (HNN.out _ HB1.out).mono ?_; rintro e w2 ⟨rfl, hb2⟩; have HX2 := Lib.hid (bheap hb2 HX.out); have HB2 := Lib.hid (HB1.out.trans (hb2.mono HB1.out.size)); have hs2 := hb2.size; clear hb2 d0 d1 d2)
    | (at_make; refine wpList_make_one _ rfl (.tmp 17) (.tmp 17) 33 rfl 4 (.bool false) rfl 1 Try.underlying33 Try.info4 .i64 .i64 (n : Nat) (n : Nat) n rfl rfl rfl rfl (by omega) (by unfold maxLen; omega) ?_; intro w3 hh3 hb3 hlt3; have RS := Lib.hid (rest_intro HB2.out (by simp at hs1; omega) HX2.out hb3 hh3); clear hh3 hb3 hlt3))
  go_loopg [10, 22] fr.length (fun fu _ c wr => ∃ k : Nat, k + fu = fr.length ∧ c = .int .i64 k ∧ ReSt w wr #[.slice sa g.S.length sc, .slice aa g.A.length ac, .slice ta g.T.length tc] w2.heap.size w3.heap.size n (visitAll n (List.replicate n false, []) (fr.take k)))
  case atStart => exact ⟨0, by omega, rfl, by simpa [visitAll] using RS.out⟩
  case round =>
    clear RS
    obtain ⟨k, hk, rfl, hS⟩ := hrel
    by_cases hlt : k < fr.length
    · obtain ⟨b, off, rfl, d⟩ := HF.out k hlt
      have y := bkeep hS.below d
      have hstep := Lib.hid (visitAll_take n (List.replicate n false, []) fr k hlt)
      have cv := cell_of_block hS.vv 0 _ rfl
      have HV := Lib.hid (fun i => visit_ok w _ _ _ n _ i wr hS (by omega))
      have z : (k : Int) < (fr.length : Int) := by omega
      clear d hS
      generalize fr.getD k 0 = x at *
      go_wp2_with (go_at_fn 81; refine (HV.out x).mono ?_; rintro e w4 ⟨rfl, hR4, -⟩)
      go_roundg (gk - 1)
      case measure => omega
      case rel => exact ⟨k + 1, by omega, by simp, by rw [hstep.out]; exact hR4⟩
    · obtain rfl : gk = 0 := by omega
      obtain rfl : k = fr.length := by omega
      rw [List.take_length] at hS
      have HS := Lib.hid hS
      clear hS
      obtain ⟨wr1, rfl⟩ : ∃ z : World, z = wr := ⟨_, rfl⟩
      go_wp2_with fail
      go_loopg [11] (falses (visitAll n (List.replicate n false, []) fr).1 + (visitAll n (List.replicate n false, []) fr).2.length) (fun fu _ wr => ∃ (out : List Bool) (op : List Int), falses out + op.length = fu ∧ ReSt w wr #[.slice sa g.S.length sc, .slice aa g.A.length ac, .slice ta g.T.length tc] w2.heap.size w3.heap.size n (out, op) ∧
        VInv g n fr (fun _ => False) (out, op) ∧ ∀ i ∈ fr, 0 ≤ i → i < (n : Int) → out.getD i.toNat false = true)
      case atStart => exact ⟨_, _, rfl, HS.out, VI.out.1, VI.out.2.2.2⟩
      case round =>
        clear HS hlt hk
        obtain ⟨out, op, hm, hS, hV, hA⟩ := hrel
        have HA := Lib.hid hA
        have HV := Lib.hid hV
        clear hA
        have hop : op = [] ∨ ∃ op' x, op = op' ++ [x] := by
          rcases List.eq_nil_or_concat op with e | ⟨a, b, e⟩
          · exact .inl e
          · exact .inr ⟨a, b, by rw [e]; simp⟩
        rcases hop with rfl | ⟨op', x, rfl⟩
        · obtain ⟨pv, p1, p2⟩ := hS.vp
          have hpv : pv = .slice none 0 0 ∨ ∃ g cap, pv = .slice (some ⟨g, 0, none⟩) 0 cap := by
            rcases p2.2 with ⟨e, -⟩ | ⟨g, cap, cur, e, -⟩
            · exact .inl e
            · exact .inr ⟨g, cap, e⟩
          have co := cell_of_block hS.vo 0 _ rfl
          have HS := Lib.hid hS
          clear hS hV p2
          rcases hpv with rfl | ⟨gg, cap, rfl⟩
          all_goals
            have cp := cell_of_block p1 0 _ rfl
            clear p1
            go_wp2_with fail
            go_ret
            exact ⟨_, rfl, by rw [← VE.out out HV.out HA.out]; exact boolsAt_block HS.out.bo HS.out.len.symm n, HS.out.below⟩
        · obtain ⟨hx0, hxn, -⟩ := hV.stack x (by simp)
          obtain ⟨i, rfl⟩ : ∃ i : Nat, x = (i : Int) := ⟨x.toNat, by omega⟩
          obtain ⟨gg, cap, p1, p2, p3, p4, p5, p6⟩ := hS.pop
          obtain ⟨len, hlen⟩ : ∃ len, op'.length = len := ⟨_, rfl⟩
          rw [hlen] at p1 p3 p5 p6
          have HL := Lib.hid hlen
          have hcap := hS.cap
          have hll : len < n := by simp [hlen] at hcap; omega
          have cp := cell_of_block p1 0 _ rfl
          have fp := free_of_block p1 0
          have a0 := cell_of_block p6.vg 0 _ rfl
          have a1 := cell_of_block p6.vg 1 _ rfl
          have a2 := cell_of_block p6.vg 2 _ rfl
          have P6 := Lib.hid p6
          have HP := Lib.hid (VP.out out op' i hV)
          have HM := Lib.hid hm
          have hlc : len ≤ cap := by omega
          unfold maxLen at p4
          clear hS hV p6 p1 hlen hm hcap p3
          go_wp2_with (first
            | (go_at_call 73; refine (each_reach HH.out HR.out P6.out (by omega) i _ rfl (by omega)).mono ?_; rintro e w4 ⟨rfl, hR4⟩))
          go_roundg (gk - 1)
          case measure => have := HM.out; simp at this; omega
          case rel => exact ⟨(visitAll n (out, op') ((eds g i).map (fun e => e.2.2))).1, (visitAll n (out, op') ((eds g i).map (fun e => e.2.2))).2, by have h1 := HM.out; have h2 := HP.out.2.1; rw [h2]; rw [List.length_append] at h1; simp only [List.length_cons, List.length_nil] at h1; omega, hR4, HP.out.1, fun j hj h0 h1 => HP.out.2.2 _ (HA.out j hj h0 h1)⟩
theorem reach_ok (v u : Value) (g : Gr) (fr : List Int) (w : World) (h : GraphAt w v g) (hu : IntsAt w u fr) (hfl : fr.length ≤ 1000000) : Calls Try.prog 39 #[v, u] w (BoolsBack w (reachL g fr)) := by
  cases hr : rightB g
  · rw [reachL_not hr]; exact reach_not v u g w h hr
  · exact reach_right v u g fr w h hu ((rightB_iff g).1 hr) hfl
end Go.Proofs.Ytnlaonppgebpoaa
