/-
  scc's search.see. scc's search.close.
-/
import Derived.Test.YtnlaonppgebpoaaSccMem
import Derived.Test.YtnlaonppgebpoaaBase
import Derived.Deep.RegionLaw
import Derived.Deep.DeepCutAuto
namespace Go.Proofs.Ytnlaonppgebpoaa
open Go.RowKit
theorem Try.info125 : (Try.prog.info? 125).map (fun i => (i.zero, i.size, i.bytes)) = some (some (.agg #[.int .i64 0, .int .i64 0]), 2, 16) := by kernel_rfl

set_option maxRecDepth 100000 in
set_option maxHeartbeats 8000000 in
theorem see_ok {w wr : World} {gA gT : Value} {sa : Option Addr} {sl sc sb bn bl bo bp base n : Nat} {num low : Nat → Int} {on : Nat → Bool} {nodes : List Nat} {part : Nat → Int} {parts : Nat} {calls : List (Nat × Nat)} {nv cv : Value}
    (h : SrM w wr (.slice sa sl sc) gA gT sb bn bl bo bp base n num low on nodes part parts calls nv cv) (i seen si : Nat) (hi : i < n) (_hn : n ≤ 1000000) (hsl : i < sl) (hS : ∃ b off, sa = some ⟨b, off, none⟩ ∧ w.cell? ⟨b, off + i, none⟩ = some (.int .i64 (si : Nat)))
    (h1 : nodes.length ≤ 1000000) (h2 : calls.length ≤ 1000000) (_h3 : seen ≤ 1000000) :
    Calls Try.prog 106 #[.pointer (some ⟨sb, 0, none⟩), .int .i64 (i : Nat), .int .i64 (seen : Nat)] wr fun e w' => e = .returned (.tuple #[]) ∧
      ∃ nv' cv', SrM w w' (.slice sa sl sc) gA gT sb bn bl bo bp base n (upd num i seen) (upd low i seen) (upd on i true) (i :: nodes) part parts ((i, si) :: calls) nv' cv' := by
  obtain ⟨i0, hi0, hz0, hz1, hz2⟩ := info_parts (Try.info3)
  obtain ⟨j0, hj0, hw0, hw1, hw2⟩ := info_parts Try.info125
  obtain ⟨b, off, rfl, hS⟩ := hS
  have HS := Lib.hid hS
  have H := Lib.hid h
  have c3 := h.cell 3 _ rfl
  have c4 := h.cell 4 _ rfl
  have n0 := cell_of_block h.hn i _ (ints_get _ i (by rw [tab_len]; exact hi))
  have l0 := cell_of_block h.hl i _ (ints_get _ i (by rw [tab_len]; exact hi))
  have fn := free_of_block h.hn i
  have fl := free_of_block h.hl i
  have hA := h.setNum i seen
  have hB := h.setLow i seen
  have l1 := cell_of_block hA.hl i _ (ints_get _ i (by rw [tab_len]; exact hi))
  have f1 := free_of_block hA.hl i
  have n1 := cell_of_block hB.hn i _ (ints_get _ i (by rw [tab_len]; exact hi))
  have g1 := free_of_block hB.hn i
  have HA := Lib.hid (hA.setLow i seen)
  have HB := Lib.hid (hB.setNum i seen)
  have i1 : (i : Int) < (n : Int) := by omega
  clear h hS hA hB
  generalize (tab n num).getD i 0 = vn at *
  generalize (tab n low).getD i 0 = vl at *
  go_enter Try.func106, Try.ntmps106
  go_wp2_with fail
  go_cut [] (fun wx => SrM w wx (.slice (some ⟨b, off, none⟩) sl sc) gA gT sb bn bl bo bp base n (upd num i seen) (upd low i seen) on nodes part parts calls nv cv)
  case first =>
    go_region
    all_goals go_wp2_with fail
    all_goals go_meet
    all_goals first
      | exact HA.out.drew
      | exact HB.out.drew
  case rest =>
    clear HA HB H c3 c4 n0 l0 fn fl l1 f1 n1 g1
    have c5 := hcut.cell 5 _ rfl
    have o0 := cell_of_block hcut.ho i _ (bools_get _ i (by rw [tab_len]; exact hi))
    have fo := free_of_block hcut.ho i
    have h5 := hcut.setOn i true
    have c6 := h5.cell 6 _ rfl
    have hsz := h5.hb
    have hrn := h5.rn
    obtain ⟨m, hm⟩ : ∃ m, nodes.length = m := ⟨_, rfl⟩
    obtain ⟨q, hq⟩ : ∃ q, calls.length = q := ⟨_, rfl⟩
    rw [hm] at h1 hrn
    rw [hq] at h2
    have HM := Lib.hid hm
    have HQ := Lib.hid hq
    have H5 := Lib.hid h5
    have RN := Lib.hid hrn
    rw [World.size_setCell] at hsz
    clear hcut h5 hm hq hrn
    generalize (tab n on).getD i false = vo at *
    go_wp2_with (at_builtin; refine wpList_append_lies ((wc.setCell ⟨bo, i, none⟩ (.bool true)).alloc (.cells #[.int .i64 i] 3)) rfl (.tmp 30) (.tmp 32) 24 rfl base 3 i0 (.int .i64 0) 1 8 Try.underlying24 hi0 hz0 hz1 hz2 rfl (by decide) nv m (ndC nodes) rfl (RN.out.alloc _) ⟨wc.heap.size, 0, none⟩ 1 1 [.int .i64 i] rfl rfl (World.news_of_block (heap_alloc_at _ _ _ (by simp))) (by simp [Value.oneCell']) (by omega) (by unfold maxLen; omega) (by omega) (by simp; omega) (wc.heap.size + 1) (by simp) ?_; intro g2 cap2 w4 hown2 hgr2 hor2 hlt2; obtain ⟨q0, q1, q2⟩ := H5.out.pushNode i m HM.out (balloc _ (.cells #[.int .i64 i] 3)) hgr2 (by simpa using hor2) hown2; have Q := Lib.hid q2; have c9 := q2.cell 9 _ rfl; have c0 := q2.cell 0 _ rfl; have s0 := bkeep q2.below HS.out; have hb9 := q2.hb; have RC := Lib.hid q2.rc; clear q2 hgr2 hown2 hor2)
    generalize World.setCell w4 _ _ = w5 at *
    have e9 := bkeep (balloc w5 (.cells #[.int .i64 i, .int .i64 si] 125)) c9
    have e0 := bkeep (balloc w5 (.cells #[.int .i64 i, .int .i64 si] 125)) c0
    have t0 := bkeep (balloc w5 (.cells #[.int .i64 i, .int .i64 si] 125)) s0
    have RCQ : Hid (w5.ownsRow base 125 2 cv q (clC calls)) := Lib.hid (by have := RC.out; rw [HQ.out] at this; exact this)
    have M1 : Hid (q + 1 ≤ maxLen) := Lib.hid (by unfold maxLen; omega)
    have M2 : Hid ((q + 1) * 16 ≤ 140737488355328) := Lib.hid (by omega)
    have i2 : (i : Int) < (sl : Int) := by omega
    clear RC c5 o0 fo c6 q0 q1
    go_region_law (refine step_append_lies ((w5.alloc (.cells #[.int .i64 i, .int .i64 si] 125)).drew) rfl (.tmp 40) (.tmp 51) 80 rfl base 125 j0 (.agg #[.int .i64 0, .int .i64 0]) 2 16 Try.underlying80 hj0 hw0 hw1 hw2 rfl (by decide) cv q (clC calls) (by simp [Act.eval]) (RCQ.out.alloc _) ⟨w5.heap.size, 0, none⟩ 1 1 [.int .i64 i, .int .i64 si] (by simp [Act.eval]) rfl (World.news_of_block (heap_alloc_new w5 _)) (by simp [Value.oneCell']) Nat.one_pos M1.out M2.out (by simp; omega) (w5.heap.size + 1) (by simp) ?_; intro g3 cap3 w6 hown3 hgr3 hor3 hlt3; obtain ⟨q0, q1, q2⟩ := Q.out.pushCall i si q HQ.out (balloc w5 (.cells #[.int .i64 i, .int .i64 si] 125)).drew hgr3 (by simpa using hor3) hown3; have Q6 := Lib.hid q2; clear q2 hgr3 hown3 hor3)
    all_goals go_wp2_with fail
    all_goals go_end0
    all_goals exact ⟨rfl, _, _, Q6.out⟩
end Go.Proofs.Ytnlaonppgebpoaa

namespace Go.Proofs.Ytnlaonppgebpoaa
open Go.RowKit

section
variable {w wr : World} {gS gA gT : Value} {sb bn bl bo bp base n : Nat} {num low : Nat → Int} {on : Nat → Bool} {nodes : List Nat} {part : Nat → Int} {parts : Nat} {calls : List (Nat × Nat)} {nv cv : Value}
/-- the top node taken off -/
theorem SrM.popNode {x : Nat} (h : SrM w wr gS gA gT sb bn bl bo bp base n num low on (x :: nodes) part parts calls nv cv) :
    ∃ g cap, nv = .slice (some ⟨g, 0, none⟩) (nodes.length + 1) cap ∧ base ≤ g ∧ nodes.length + 1 ≤ cap ∧ cap ≤ maxLen ∧ wr.cell? ⟨g, nodes.length, none⟩ = some (.int .i64 (x : Nat)) ∧
      SrM w (wr.setCell ⟨sb, 6, none⟩ (.slice (some ⟨g, 0, none⟩) nodes.length cap)) gS gA gT sb bn bl bo bp base n num low on nodes part parts calls (.slice (some ⟨g, 0, none⟩) nodes.length cap) cv := by
  obtain ⟨hl, h2⟩ := h.rn
  rcases h2 with ⟨-, h0⟩ | ⟨g, cap, cur, rfl, hb, hg, hn, hc, hs, ht⟩
  · simp at h0
  have hlen : (x :: nodes).length = nodes.length + 1 := rfl
  rw [hlen] at hn ht ⊢
  obtain ⟨d1, d2, d3⟩ := h.d
  have hf : Frm (fun q => q = sb) wr (wr.setCell ⟨sb, 6, none⟩ (.slice (some ⟨g, 0, none⟩) nodes.length cap)) := (Frm.refl (fun q => q = sb) wr).setCell (p := ⟨sb, 6, none⟩) (fun _ => rfl) _
  refine ⟨g, cap, rfl, hb, hn, hc, ?_, ?_⟩
  · refine cell_of_block hg _ _ ?_
    have e : (ndC (x :: nodes))[nodes.length]? = some (.int .i64 (x : Nat)) := by
      rw [ndC_cons, List.getElem?_append_right (by rw [ndC_len]; exact Nat.le_refl _), ndC_len]; simp
    rw [← ht, List.getElem?_take, if_pos (by omega)] at e
    simpa using e
  · refine ⟨h.below.setCell (p := ⟨sb, 6, none⟩) d1.1 _, ?_, hf.heap h.hn (by omega), hf.heap h.hl (by omega), hf.heap h.ho (by omega), hf.heap h.hp (by omega), ⟨by rw [ndC_len]; omega, .inr ⟨g, cap, cur, rfl, hb, hf.heap hg (by omega), by omega, hc, hs, ?_⟩⟩, ownsRow_frm h.rc hf (fun q hq e => by have := (h.rc.lt q hq).1; omega), h.d, by simpa using h.hb⟩
    · rw [heap_setCell_block h.hs]; rfl
    · have e : (ndC (x :: nodes)).take nodes.length = ndC nodes := by
        rw [ndC_cons, List.take_append_of_le_length (by rw [ndC_len]; exact Nat.le_refl _), List.take_of_length_le (by rw [ndC_len]; exact Nat.le_refl _)]
      rw [← e, ← ht, List.take_take]
      congr 1
      omega
end
def offL (on : Nat → Bool) (p : List Nat) : Nat → Bool := fun x => if x ∈ p then false else on x
def partL (part : Nat → Int) (m : Nat) (p : List Nat) : Nat → Int := fun x => if x ∈ p then (m : Int) else part x
theorem offL_upd (on : Nat → Bool) (p : List Nat) (x : Nat) : upd (offL on p) x false = offL on (p ++ [x]) := by
  funext y
  by_cases e : y = x
  · subst e; rw [upd_same]; simp [offL]
  · rw [upd_other _ _ _ _ e]; simp [offL, e]
theorem partL_upd (part : Nat → Int) (m : Nat) (p : List Nat) (x : Nat) : upd (partL part m p) x m = partL part m (p ++ [x]) := by
  funext y
  by_cases e : y = x
  · subst e; rw [upd_same]; simp [partL]
  · rw [upd_other _ _ _ _ e]; simp [partL, e]

set_option maxRecDepth 100000 in
set_option maxHeartbeats 8000000 in
theorem close_ok {w wr : World} {gS gA gT : Value} {sb bn bl bo bp base n : Nat} {num low : Nat → Int} {on : Nat → Bool} {part : Nat → Int} {parts : Nat} {calls : List (Nat × Nat)} {nv cv : Value} {pre suf : List Nat} {i : Nat}
    (h : SrM w wr gS gA gT sb bn bl bo bp base n num low on (pre ++ i :: suf) part parts calls nv cv) (hlt : ∀ x ∈ pre ++ i :: suf, x < n) (hi : i ∉ pre) (hlen : (pre ++ i :: suf).length ≤ 1000000) (hp : parts ≤ 1000000) :
    Calls Try.prog 107 #[.pointer (some ⟨sb, 0, none⟩), .int .i64 (i : Nat)] wr fun e w' => e = .returned (.tuple #[]) ∧
      ∃ nv', SrM w w' gS gA gT sb bn bl bo bp base n num low (offL on (pre ++ [i])) suf (partL part parts (pre ++ [i])) (parts + 1) calls nv' cv := by
  have H := Lib.hid h
  have HL := Lib.hid hlt
  clear h hlt
  go_enter Try.func107, Try.ntmps107
  go_wp2_with fail
  go_loopg [4, 5] pre.length (fun fu _ _ wr => ∃ (p q : List Nat) (nv' : Value), q.length = fu ∧ Hid (p ++ q = pre) ∧ SrM w wr gS gA gT sb bn bl bo bp base n num low (offL on p) (q ++ i :: suf) (partL part parts p) parts calls nv' cv)
  case atStart =>
    have e1 : offL on [] = on := by funext y; simp [offL]
    have e2 : partL part parts [] = part := by funext y; simp [partL]
    exact ⟨[], pre, nv, rfl, Lib.hid rfl, by rw [e1, e2]; exact H.out⟩
  case round =>
    clear H
    obtain ⟨p, q, nv', hq, hpq, hS⟩ := hrel
    obtain ⟨x, rem, hrem⟩ : ∃ x rem, q ++ i :: suf = x :: rem := by
      rcases q with _ | ⟨a, q⟩
      · exact ⟨i, suf, rfl⟩
      · exact ⟨a, q ++ i :: suf, rfl⟩
    have hx : x < n := HL.out x (by rw [← hpq.out, List.append_assoc, hrem]; simp)
    have hrl : rem.length ≤ 1000000 := by
      have e := congrArg List.length hrem
      have e2 := congrArg List.length hpq.out
      simp at e e2 hlen
      omega
    rw [hrem] at hS
    have c6 := hS.cell 6 _ rfl
    have f6 := hS.free 6
    obtain ⟨g, cap, rfl, p2, p3, p4, p5, p6⟩ := hS.popNode
    obtain ⟨m, hm⟩ : ∃ m, rem.length = m := ⟨_, rfl⟩
    have HRM := Lib.hid hrem
    rw [hm] at c6 p3 p5 p6 hrl
    have HM := Lib.hid hm
    have c5 := p6.cell 5 _ rfl
    have o0 := cell_of_block p6.ho x _ (bools_get _ x (by rw [tab_len]; exact hx))
    have fo := free_of_block p6.ho x
    have h7 := p6.setOn x false
    have c7 := h7.cell 7 _ rfl
    have c8 := h7.cell 8 _ rfl
    have q0 := cell_of_block h7.hp x _ (ints_get _ x (by rw [tab_len]; exact hx))
    have fq := free_of_block h7.hp x
    have h8 := h7.setPart x parts
    have H8 := Lib.hid (by have := h8; rw [offL_upd, partL_upd] at this; exact this)
    have k8 := h8.cell 8 _ rfl
    have fk := h8.free 8
    have H9 := Lib.hid (by have := h8.setParts (parts + 1); rw [offL_upd, partL_upd] at this; exact this)
    have i1 : (x : Int) < (n : Int) := by omega
    have i2 : m < cap := by omega
    have i3 : m ≤ cap := by omega
    unfold maxLen at p4
    clear hS p6 h7 h8 hrem hm
    generalize (tab n (offL on p)).getD x false = vo at *
    generalize (tab n (partL part parts p)).getD x 0 = vq at *
    by_cases hxi : x = i
    · subst hxi
      have hq0 : q = [] := by
        rcases q with _ | ⟨a, q⟩
        · rfl
        · exfalso
          have := HRM.out
          simp at this
          apply hi
          rw [← hpq.out, this.1]; simp
      have hsuf : rem = suf := by have := HRM.out; rw [hq0] at this; simpa using this.symm
      have HP : Hid (p = pre) := Lib.hid (by have := hpq.out; rw [hq0] at this; simpa using this)
      have HSF := Lib.hid hsuf
      clear hsuf hq0 hq
      go_wp2_with fail
      refine region_tail 10 (by kernel_rfl) (by kernel_rfl) ?_
      simp only [List.take_succ_cons, List.take_zero, List.drop_succ_cons, List.drop_zero]
      repeat still_step
      refine wpStill_nil ?_
      go_wp2_with fail
      go_end0
      have q9 := H9.out.drew
      have e1 := HP.out
      have e2 := HSF.out
      subst e1 e2
      exact ⟨rfl, _, q9⟩
    · go_wp2_with fail
      refine region_tail 10 (by kernel_rfl) (by kernel_rfl) ?_
      simp only [List.take_succ_cons, List.take_zero, List.drop_succ_cons, List.drop_zero]
      repeat still_step
      refine wpStill_nil ?_
      go_wp2_with fail
      rcases q with _ | ⟨a, q⟩
      · exact absurd (by have := HRM.out; simp at this; exact this.1.symm) hxi
      · have hr := HRM.out
        simp at hr hq
        obtain ⟨rfl, rfl⟩ := hr
        go_roundg (gk - 1)
        · exact ⟨p ++ [a], q, _, by omega, Lib.hid (by rw [← hpq.out]; simp), H8.out.drew⟩
        · omega
end Go.Proofs.Ytnlaonppgebpoaa
