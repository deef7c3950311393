/-
  scc's search.see. scc's search.close. scc's run, step by step: no program in sight. scc's run: its calls in memory.
-/
import Derived.Test.YtnlaonppgebpoaaSccMem
import Derived.Test.YtnlaonppgebpoaaBase
import Derived.Deep.RegionLaw
import Derived.Deep.DeepCutAuto
import Derived.ScopeJumps
import Derived.StillTactics
namespace Go.Proofs.Ytnlaonppgebpoaa
open Go.RowKit
theorem Try.info125 : (Try.prog.info? 125).map (fun i => (i.zero, i.size, i.bytes)) = some (some (.agg #[.int .i64 0, .int .i64 0]), 2, 16) := by kernel_rfl

set_option maxRecDepth 100000 in
set_option maxHeartbeats 8000000 in
theorem see_ok {w wr : World} {gA gT : Value} {sa : Option Addr} {sl sc sb bn bl bo bp base n : Nat} {num low : Nat → Int} {on : Nat → Bool} {nodes : List Nat} {part : Nat → Int} {parts : Nat} {calls : List (Nat × Nat)} {nv cv : Value}
    (h : SrM w wr (.slice sa sl sc) gA gT sb bn bl bo bp base n num low on nodes part parts calls nv cv) (i seen si : Nat) (hi : i < n) (_hn : n ≤ 1000000) (hsl : i < sl) (hS : ∃ b off, sa = some ⟨b, off, none⟩ ∧ w.cell? ⟨b, off + i, none⟩ = some (.int .i64 (si : Nat)))
    (h1 : nodes.length ≤ 1000000) (h2 : calls.length ≤ 1000000) (_h3 : seen ≤ 1000000) :
    Calls Try.prog 106 #[.pointer (some ⟨sb, 0, none⟩), .int .i64 (i : Nat), .int .i64 (seen : Nat)] wr fun e w' => e = .returned (.tuple #[]) ∧
      ∃ nv' cv', SrM w w' (.slice sa sl sc) gA gT sb bn bl bo bp base n (upd num i seen) (upd low i seen) (upd on i true) (i :: nodes) part parts ((i, si) :: calls) nv' cv' := by
  obtain ⟨i0, hi0, hz0, hz1, hz2⟩ := info_parts (Try.info3)
  obtain ⟨j0, hj0, hw0, hw1, hw2⟩ := info_parts Try.info125
  obtain ⟨b, off, rfl, hS⟩ := hS
  have HS := Lib.hid hS
  have H := Lib.hid h
  have c3 := h.cell 3 _ rfl
  have c4 := h.cell 4 _ rfl
  have n0 := cell_of_block h.hn i _ (ints_get _ i (by rw [tab_len]; exact hi))
  have l0 := cell_of_block h.hl i _ (ints_get _ i (by rw [tab_len]; exact hi))
  have fn := free_of_block h.hn i
  have fl := free_of_block h.hl i
  have hA := h.setNum i seen
  have hB := h.setLow i seen
  have l1 := cell_of_block hA.hl i _ (ints_get _ i (by rw [tab_len]; exact hi))
  have f1 := free_of_block hA.hl i
  have n1 := cell_of_block hB.hn i _ (ints_get _ i (by rw [tab_len]; exact hi))
  have g1 := free_of_block hB.hn i
  have HA := Lib.hid (hA.setLow i seen)
  have HB := Lib.hid (hB.setNum i seen)
  have i1 : (i : Int) < (n : Int) := by omega
  clear h hS hA hB
  generalize (tab n num).getD i 0 = vn at *
  generalize (tab n low).getD i 0 = vl at *
  go_enter Try.func106, Try.ntmps106
  go_wp2_with fail
  go_cut [] (fun wx => SrM w wx (.slice (some ⟨b, off, none⟩) sl sc) gA gT sb bn bl bo bp base n (upd num i seen) (upd low i seen) on nodes part parts calls nv cv)
  case first =>
    go_region
    all_goals go_wp2_with fail
    all_goals go_meet
    all_goals first
      | exact HA.out.drew
      | exact HB.out.drew
  case rest =>
    clear HA HB H c3 c4 n0 l0 fn fl l1 f1 n1 g1
    have c5 := hcut.cell 5 _ rfl
    have o0 := cell_of_block hcut.ho i _ (bools_get _ i (by rw [tab_len]; exact hi))
    have fo := free_of_block hcut.ho i
    have h5 := hcut.setOn i true
    have c6 := h5.cell 6 _ rfl
    have hsz := h5.hb
    have hrn := h5.rn
    obtain ⟨m, hm⟩ : ∃ m, nodes.length = m := ⟨_, rfl⟩
    obtain ⟨q, hq⟩ : ∃ q, calls.length = q := ⟨_, rfl⟩
    rw [hm] at h1 hrn
    rw [hq] at h2
    have HM := Lib.hid hm
    have HQ := Lib.hid hq
    have H5 := Lib.hid h5
    have RN := Lib.hid hrn
    rw [World.size_setCell] at hsz
    clear hcut h5 hm hq hrn
    generalize (tab n on).getD i false = vo at *
    go_wp2_with (at_builtin; refine wpList_append_lies ((wc.setCell ⟨bo, i, none⟩ (.bool true)).alloc (.cells #[.int .i64 i] 3)) rfl (.tmp 30) (.tmp 32) 24 rfl base 3 i0 (.int .i64 0) 1 8 Try.underlying24 hi0 hz0 hz1 hz2 rfl (by decide) nv m (ndC nodes) rfl (RN.out.alloc _) ⟨wc.heap.size, 0, none⟩ 1 1 [.int .i64 i] rfl rfl (World.news_of_block (heap_alloc_at _ _ _ (by simp))) (by simp [Value.oneCell']) (by omega) (by unfold maxLen; omega) (by omega) (by simp; omega) (wc.heap.size + 1) (by simp) ?_; intro g2 cap2 w4 hown2 hgr2 hor2 hlt2; obtain ⟨q0, q1, q2⟩ := H5.out.pushNode i m HM.out (balloc _ (.cells #[.int .i64 i] 3)) hgr2 (by simpa using hor2) hown2; have Q := Lib.hid q2; have c9 := q2.cell 9 _ rfl; have c0 := q2.cell 0 _ rfl; have s0 := bkeep q2.below HS.out; have hb9 := q2.hb; have RC := Lib.hid q2.rc; clear q2 hgr2 hown2 hor2)
    generalize World.setCell w4 _ _ = w5 at *
    have e9 := bkeep (balloc w5 (.cells #[.int .i64 i, .int .i64 si] 125)) c9
    have e0 := bkeep (balloc w5 (.cells #[.int .i64 i, .int .i64 si] 125)) c0
    have t0 := bkeep (balloc w5 (.cells #[.int .i64 i, .int .i64 si] 125)) s0
    have RCQ : Hid (w5.ownsRow base 125 2 cv q (clC calls)) := Lib.hid (by have := RC.out; rw [HQ.out] at this; exact this)
    have M1 : Hid (q + 1 ≤ maxLen) := Lib.hid (by unfold maxLen; omega)
    have M2 : Hid ((q + 1) * 16 ≤ 140737488355328) := Lib.hid (by omega)
    have i2 : (i : Int) < (sl : Int) := by omega
    clear RC c5 o0 fo c6 q0 q1
    go_region_law (refine step_append_lies ((w5.alloc (.cells #[.int .i64 i, .int .i64 si] 125)).drew) rfl (.tmp 40) (.tmp 51) 80 rfl base 125 j0 (.agg #[.int .i64 0, .int .i64 0]) 2 16 Try.underlying80 hj0 hw0 hw1 hw2 rfl (by decide) cv q (clC calls) (by simp [Act.eval]) (RCQ.out.alloc _) ⟨w5.heap.size, 0, none⟩ 1 1 [.int .i64 i, .int .i64 si] (by simp [Act.eval]) rfl (World.news_of_block (heap_alloc_new w5 _)) (by simp [Value.oneCell']) Nat.one_pos M1.out M2.out (by simp; omega) (w5.heap.size + 1) (by simp) ?_; intro g3 cap3 w6 hown3 hgr3 hor3 hlt3; obtain ⟨q0, q1, q2⟩ := Q.out.pushCall i si q HQ.out (balloc w5 (.cells #[.int .i64 i, .int .i64 si] 125)).drew hgr3 (by simpa using hor3) hown3; have Q6 := Lib.hid q2; clear q2 hgr3 hown3 hor3)
    all_goals go_wp2_with fail
    all_goals go_end0
    all_goals exact ⟨rfl, _, _, Q6.out⟩
end Go.Proofs.Ytnlaonppgebpoaa

namespace Go.Proofs.Ytnlaonppgebpoaa
open Go.RowKit

section
variable {w wr : World} {gS gA gT : Value} {sb bn bl bo bp base n : Nat} {num low : Nat → Int} {on : Nat → Bool} {nodes : List Nat} {part : Nat → Int} {parts : Nat} {calls : List (Nat × Nat)} {nv cv : Value}
/-- the top node taken off -/
theorem SrM.popNode {x : Nat} (h : SrM w wr gS gA gT sb bn bl bo bp base n num low on (x :: nodes) part parts calls nv cv) :
    ∃ g cap, nv = .slice (some ⟨g, 0, none⟩) (nodes.length + 1) cap ∧ base ≤ g ∧ nodes.length + 1 ≤ cap ∧ cap ≤ maxLen ∧ wr.cell? ⟨g, nodes.length, none⟩ = some (.int .i64 (x : Nat)) ∧
      SrM w (wr.setCell ⟨sb, 6, none⟩ (.slice (some ⟨g, 0, none⟩) nodes.length cap)) gS gA gT sb bn bl bo bp base n num low on nodes part parts calls (.slice (some ⟨g, 0, none⟩) nodes.length cap) cv := by
  obtain ⟨hl, h2⟩ := h.rn
  rcases h2 with ⟨-, h0⟩ | ⟨g, cap, cur, rfl, hb, hg, hn, hc, hs, ht⟩
  · simp at h0
  have hlen : (x :: nodes).length = nodes.length + 1 := rfl
  rw [hlen] at hn ht ⊢
  obtain ⟨d1, d2, d3⟩ := h.d
  have hf : Frm (fun q => q = sb) wr (wr.setCell ⟨sb, 6, none⟩ (.slice (some ⟨g, 0, none⟩) nodes.length cap)) := (Frm.refl (fun q => q = sb) wr).setCell (p := ⟨sb, 6, none⟩) (fun _ => rfl) _
  refine ⟨g, cap, rfl, hb, hn, hc, ?_, ?_⟩
  · refine cell_of_block hg _ _ ?_
    have e : (ndC (x :: nodes))[nodes.length]? = some (.int .i64 (x : Nat)) := by
      rw [ndC_cons, List.getElem?_append_right (by rw [ndC_len]; exact Nat.le_refl _), ndC_len]; simp
    rw [← ht, List.getElem?_take, if_pos (by omega)] at e
    simpa using e
  · refine ⟨h.below.setCell (p := ⟨sb, 6, none⟩) d1.1 _, ?_, hf.heap h.hn (by omega), hf.heap h.hl (by omega), hf.heap h.ho (by omega), hf.heap h.hp (by omega), ⟨by rw [ndC_len]; omega, .inr ⟨g, cap, cur, rfl, hb, hf.heap hg (by omega), by omega, hc, hs, ?_⟩⟩, ownsRow_frm h.rc hf (fun q hq e => by have := (h.rc.lt q hq).1; omega), h.d, by simpa using h.hb⟩
    · rw [heap_setCell_block h.hs]; rfl
    · have e : (ndC (x :: nodes)).take nodes.length = ndC nodes := by
        rw [ndC_cons, List.take_append_of_le_length (by rw [ndC_len]; exact Nat.le_refl _), List.take_of_length_le (by rw [ndC_len]; exact Nat.le_refl _)]
      rw [← e, ← ht, List.take_take]
      congr 1
      omega
end
def offL (on : Nat → Bool) (p : List Nat) : Nat → Bool := fun x => if x ∈ p then false else on x
def partL (part : Nat → Int) (m : Nat) (p : List Nat) : Nat → Int := fun x => if x ∈ p then (m : Int) else part x
theorem offL_upd (on : Nat → Bool) (p : List Nat) (x : Nat) : upd (offL on p) x false = offL on (p ++ [x]) := by
  funext y
  by_cases e : y = x
  · subst e; rw [upd_same]; simp [offL]
  · rw [upd_other _ _ _ _ e]; simp [offL, e]
theorem partL_upd (part : Nat → Int) (m : Nat) (p : List Nat) (x : Nat) : upd (partL part m p) x m = partL part m (p ++ [x]) := by
  funext y
  by_cases e : y = x
  · subst e; rw [upd_same]; simp [partL]
  · rw [upd_other _ _ _ _ e]; simp [partL, e]

set_option maxRecDepth 100000 in
set_option maxHeartbeats 8000000 in
theorem close_ok {w wr : World} {gS gA gT : Value} {sb bn bl bo bp base n : Nat} {num low : Nat → Int} {on : Nat → Bool} {part : Nat → Int} {parts : Nat} {calls : List (Nat × Nat)} {nv cv : Value} {pre suf : List Nat} {i : Nat}
    (h : SrM w wr gS gA gT sb bn bl bo bp base n num low on (pre ++ i :: suf) part parts calls nv cv) (hlt : ∀ x ∈ pre ++ i :: suf, x < n) (hi : i ∉ pre) (hlen : (pre ++ i :: suf).length ≤ 1000000) (hp : parts ≤ 1000000) :
    Calls Try.prog 107 #[.pointer (some ⟨sb, 0, none⟩), .int .i64 (i : Nat)] wr fun e w' => e = .returned (.tuple #[]) ∧
      ∃ nv', SrM w w' gS gA gT sb bn bl bo bp base n num low (offL on (pre ++ [i])) suf (partL part parts (pre ++ [i])) (parts + 1) calls nv' cv := by
  have H := Lib.hid h
  have HL := Lib.hid hlt
  clear h hlt
  go_enter Try.func107, Try.ntmps107
  go_wp2_with fail
  go_loopg [4, 5] pre.length (fun fu _ _ wr => ∃ (p q : List Nat) (nv' : Value), q.length = fu ∧ Hid (p ++ q = pre) ∧ SrM w wr gS gA gT sb bn bl bo bp base n num low (offL on p) (q ++ i :: suf) (partL part parts p) parts calls nv' cv)
  case atStart =>
    have e1 : offL on [] = on := by funext y; simp [offL]
    have e2 : partL part parts [] = part := by funext y; simp [partL]
    exact ⟨[], pre, nv, rfl, Lib.hid rfl, by rw [e1, e2]; exact H.out⟩
  case round =>
    clear H
    obtain ⟨p, q, nv', hq, hpq, hS⟩ := hrel
    obtain ⟨x, rem, hrem⟩ : ∃ x rem, q ++ i :: suf = x :: rem := by
      rcases q with _ | ⟨a, q⟩
      · exact ⟨i, suf, rfl⟩
      · exact ⟨a, q ++ i :: suf, rfl⟩
    have hx : x < n := HL.out x (by rw [← hpq.out, List.append_assoc, hrem]; simp)
    have hrl : rem.length ≤ 1000000 := by
      have e := congrArg List.length hrem
      have e2 := congrArg List.length hpq.out
      simp at e e2 hlen
      omega
    rw [hrem] at hS
    have c6 := hS.cell 6 _ rfl
    have f6 := hS.free 6
    obtain ⟨g, cap, rfl, p2, p3, p4, p5, p6⟩ := hS.popNode
    obtain ⟨m, hm⟩ : ∃ m, rem.length = m := ⟨_, rfl⟩
    have HRM := Lib.hid hrem
    rw [hm] at c6 p3 p5 p6 hrl
    have HM := Lib.hid hm
    have c5 := p6.cell 5 _ rfl
    have o0 := cell_of_block p6.ho x _ (bools_get _ x (by rw [tab_len]; exact hx))
    have fo := free_of_block p6.ho x
    have h7 := p6.setOn x false
    have c7 := h7.cell 7 _ rfl
    have c8 := h7.cell 8 _ rfl
    have q0 := cell_of_block h7.hp x _ (ints_get _ x (by rw [tab_len]; exact hx))
    have fq := free_of_block h7.hp x
    have h8 := h7.setPart x parts
    have H8 := Lib.hid (by have := h8; rw [offL_upd, partL_upd] at this; exact this)
    have k8 := h8.cell 8 _ rfl
    have fk := h8.free 8
    have H9 := Lib.hid (by have := h8.setParts (parts + 1); rw [offL_upd, partL_upd] at this; exact this)
    have i1 : (x : Int) < (n : Int) := by omega
    have i2 : m < cap := by omega
    have i3 : m ≤ cap := by omega
    unfold maxLen at p4
    clear hS p6 h7 h8 hrem hm
    generalize (tab n (offL on p)).getD x false = vo at *
    generalize (tab n (partL part parts p)).getD x 0 = vq at *
    by_cases hxi : x = i
    · subst hxi
      have hq0 : q = [] := by
        rcases q with _ | ⟨a, q⟩
        · rfl
        · exfalso
          have := HRM.out
          simp at this
          apply hi
          rw [← hpq.out, this.1]; simp
      have hsuf : rem = suf := by have := HRM.out; rw [hq0] at this; simpa using this.symm
      have HP : Hid (p = pre) := Lib.hid (by have := hpq.out; rw [hq0] at this; simpa using this)
      have HSF := Lib.hid hsuf
      clear hsuf hq0 hq
      go_wp2_with fail
      refine region_tail 10 (by kernel_rfl) (by kernel_rfl) ?_
      simp only [List.take_succ_cons, List.take_zero, List.drop_succ_cons, List.drop_zero]
      repeat still_step
      refine wpStill_nil ?_
      go_wp2_with fail
      go_end0
      have q9 := H9.out.drew
      have e1 := HP.out
      have e2 := HSF.out
      subst e1 e2
      exact ⟨rfl, _, q9⟩
    · go_wp2_with fail
      refine region_tail 10 (by kernel_rfl) (by kernel_rfl) ?_
      simp only [List.take_succ_cons, List.take_zero, List.drop_succ_cons, List.drop_zero]
      repeat still_step
      refine wpStill_nil ?_
      go_wp2_with fail
      rcases q with _ | ⟨a, q⟩
      · exact absurd (by have := HRM.out; simp at this; exact this.1.symm) hxi
      · have hr := HRM.out
        simp at hr hq
        obtain ⟨rfl, rfl⟩ := hr
        go_roundg (gk - 1)
        · exact ⟨p ++ [a], q, _, by omega, Lib.hid (by rw [← hpq.out]; simp), H8.out.drew⟩
        · omega
end Go.Proofs.Ytnlaonppgebpoaa

namespace Go.Proofs.Ytnlaonppgebpoaa

def unseen (n : Nat) (num : Nat → Int) : Nat := (List.range n).countP (fun x => decide (num x = -1))
theorem unseen_le (n : Nat) (num : Nat → Int) : unseen n num ≤ n := by
  have := List.countP_le_length (p := fun x => decide (num x = -1)) (l := List.range n)
  simpa [unseen] using this
theorem unseen_succ (n : Nat) (num : Nat → Int) : unseen (n + 1) num = unseen n num + if num n = -1 then 1 else 0 := by
  unfold unseen
  rw [List.range_succ, List.countP_append]
  simp [List.countP_cons]
theorem unseen_same {num num' : Nat → Int} : ∀ n, (∀ x, x < n → num x = num' x) → unseen n num = unseen n num'
  | 0, _ => rfl
  | n + 1, h => by rw [unseen_succ, unseen_succ, unseen_same n (fun x hx => h x (by omega)), h n (by omega)]
theorem unseen_upd {num : Nat → Int} {x : Nat} {v : Int} (hx : num x = -1) (hv : v ≠ -1) : ∀ n, x < n → unseen n (upd num x v) + 1 = unseen n num
  | 0, h => by omega
  | n + 1, h => by
    rw [unseen_succ, unseen_succ]
    by_cases e : x = n
    · subst e
      rw [upd_same, if_neg hv, if_pos hx, unseen_same x (fun y hy => upd_other num x y v (by omega))]
    · rw [upd_other _ _ _ _ (Ne.symm e)]
      have := unseen_upd hx hv n (by omega)
      omega
theorem sorted_len {α : Type} {f : α → Int} : ∀ (l : List α) (m : Nat), l.Pairwise (fun a b => f b < f a) → (∀ x ∈ l, 0 ≤ f x ∧ f x < (m : Int)) → l.length ≤ m
  | [], m, _, _ => Nat.zero_le _
  | x :: l, m, h, hb => by
    rw [List.pairwise_cons] at h
    have h0 := hb x (List.mem_cons_self ..)
    have := sorted_len l (f x).toNat h.2 (fun y hy => ⟨(hb y (List.mem_cons_of_mem _ hy)).1, by have := h.1 y hy; omega⟩)
    rw [List.length_cons]
    omega

structure RunInv (G : TG) (num0 : Nat → Int) (s : TS) : Prop where
  inv : TInv G s
  c1 : s.seen + unseen G.n s.num = G.n
  c2 : s.parts + s.nodes.length ≤ s.seen
  keep : ∀ x, 0 ≤ num0 x → 0 ≤ s.num x

section
variable {G : TG} {num0 : Nat → Int} {s : TS}
theorem RunInv.lens (h : RunInv G num0 s) : s.nodes.length ≤ G.n ∧ s.calls.length ≤ G.n ∧ s.seen ≤ G.n ∧ s.parts ≤ G.n := by
  have c1 := h.c1
  have c2 := h.c2
  have hm : ∀ x, s.on x = true → 0 ≤ s.num x ∧ s.num x < (s.seen : Int) := fun x hx => ⟨h.inv.onSeen x hx, (h.inv.seenOf (h.inv.onSeen x hx)).1⟩
  have h2 := sorted_len (f := fun c : Nat × Nat => s.num c.1) s.calls s.seen h.inv.csorted (fun c hc => hm c.1 (h.inv.callsOn c hc))
  omega
theorem RunInv.nodesLt (h : RunInv G num0 s) : ∀ x ∈ s.nodes, x < G.n := fun x hx => (h.inv.seenOf (h.inv.onSeen x ((h.inv.onNodes x).2 hx))).2
theorem RunInv.topPth (h : RunInv G num0 s) {i nx : Nat} {rest : List (Nat × Nat)} (hc : s.calls = (i, nx) :: rest) : ∀ c ∈ s.calls, Pth G.E c.1 i := by
  intro c hcm
  have ho := h.inv.callsOn (i, nx) (by rw [hc]; simp)
  refine h.inv.chain c hcm i ho ?_
  have hs := h.inv.csorted
  rw [hc] at hcm hs
  rcases List.mem_cons.1 hcm with rfl | q
  · exact Int.le_refl _
  · exact Int.le_of_lt ((List.pairwise_cons.1 hs).1 c q)
theorem RunInv.top (h : RunInv G num0 s) {i nx : Nat} {rest : List (Nat × Nat)} (hc : s.calls = (i, nx) :: rest) : i < G.n ∧ s.on i = true ∧ 0 ≤ s.num i ∧ G.S i ≤ nx ∧ nx ≤ G.S (i + 1) := by
  have hm : (i, nx) ∈ s.calls := by rw [hc]; simp
  have ho := h.inv.callsOn _ hm
  have h0 := h.inv.onSeen _ ho
  exact ⟨(h.inv.seenOf h0).2, ho, h0, h.inv.next _ hm⟩
theorem RunInv.edge (h : RunInv G num0 s) {i nx : Nat} {rest : List (Nat × Nat)} (hc : s.calls = (i, nx) :: rest) (hl : nx < G.S (i + 1)) : G.E i (G.T nx) ∧ G.T nx < G.n := by
  have ht := h.top hc
  exact ⟨⟨ht.1, nx, ht.2.2.2.1, hl, rfl⟩, G.hT i nx ht.1 ht.2.2.2.1 hl⟩

/-- a new node behind an edge -/
theorem RunInv.stepSee (h : RunInv G num0 s) {i nx : Nat} {rest : List (Nat × Nat)} (hc : s.calls = (i, nx) :: rest) (hl : nx < G.S (i + 1)) (hs : s.num (G.T nx) = -1) :
    RunInv G num0 { s with num := upd s.num (G.T nx) s.seen, low := upd s.low (G.T nx) s.seen, on := upd s.on (G.T nx) true, nodes := G.T nx :: s.nodes, calls := (G.T nx, G.S (G.T nx)) :: (i, nx + 1) :: rest, seen := s.seen + 1 } ∧
      unseen G.n (upd s.num (G.T nx) s.seen) + 1 = unseen G.n s.num := by
  obtain ⟨he, ht⟩ := h.edge hc hl
  have hi := h.top hc
  have hne : i ≠ G.T nx := fun e => by rw [← e] at hs; omega
  have a := h.inv.see hs ht (fun c hcm => (h.topPth hc c hcm).step he)
  have b := a.advance (pre := [(G.T nx, G.S (G.T nx))]) (i := i) (nx := nx) (rest := rest) (by simp [seeS, hc]) hl (by show 0 ≤ upd s.num (G.T nx) _ (G.T nx); rw [upd_same]; omega) (fun _ => by
    show upd s.low (G.T nx) _ i ≤ upd s.num (G.T nx) _ (G.T nx)
    rw [upd_same, upd_other _ _ _ _ hne]
    have := h.inv.lowLe i hi.2.1
    have := (h.inv.seenOf hi.2.2.1).1
    omega)
  have hu := unseen_upd (v := (s.seen : Int)) hs (by omega) G.n ht
  refine ⟨⟨b, ?_, ?_, ?_⟩, hu⟩
  · have := h.c1
    show s.seen + 1 + unseen G.n (upd s.num (G.T nx) s.seen) = G.n
    omega
  · have := h.c2
    show s.parts + (G.T nx :: s.nodes).length ≤ s.seen + 1
    rw [List.length_cons]; omega
  · intro x hx
    show 0 ≤ upd s.num (G.T nx) _ x
    by_cases e : x = G.T nx
    · rw [e, upd_same]; omega
    · rw [upd_other _ _ _ _ e]; exact h.keep x hx
theorem RunInv.stepLow (h : RunInv G num0 s) {i nx : Nat} {rest : List (Nat × Nat)} (hc : s.calls = (i, nx) :: rest) (hl : nx < G.S (i + 1)) (ho : s.on (G.T nx) = true) :
    RunInv G num0 { s with low := upd s.low i (min (s.low i) (s.num (G.T nx))), calls := (i, nx + 1) :: rest } := by
  obtain ⟨he, ht⟩ := h.edge hc hl
  have a := h.inv.lowUpd (x := i) (y := G.T nx) ⟨(i, nx), by rw [hc]; simp, rfl⟩ ho (.one he)
  have b := a.advance (pre := []) (i := i) (nx := nx) (rest := rest) (by simp [hc]) hl (h.inv.onSeen _ ho) (fun _ => by
    show upd s.low i _ i ≤ s.num (G.T nx)
    rw [upd_same]; omega)
  exact ⟨b, h.c1, h.c2, h.keep⟩
theorem RunInv.stepSkip (h : RunInv G num0 s) {i nx : Nat} {rest : List (Nat × Nat)} (hc : s.calls = (i, nx) :: rest) (hl : nx < G.S (i + 1)) (hs : s.num (G.T nx) ≠ -1) (ho : s.on (G.T nx) = false) :
    RunInv G num0 { s with calls := (i, nx + 1) :: rest } := by
  have b := h.inv.advance (pre := []) (i := i) (nx := nx) (rest := rest) (by simp [hc]) hl (by rcases h.inv.numLt (G.T nx) with e | e; exact absurd e hs; exact e.1) (fun e => by rw [ho] at e; cases e)
  exact ⟨b, h.c1, h.c2, h.keep⟩
theorem RunInv.stepPop (h : RunInv G num0 s) {i nx u nu : Nat} {rest : List (Nat × Nat)} (hc : s.calls = (i, nx) :: (u, nu) :: rest) (hnx : nx = G.S (i + 1)) (hne : s.low i ≠ s.num i) :
    RunInv G num0 { s with low := upd s.low u (min (s.low u) (s.low i)), calls := (u, nu) :: rest } := by
  have hi := h.top hc
  have hcs := h.inv.csorted
  rw [hc] at hcs
  have hui : s.num u < s.num i := (List.pairwise_cons.1 hcs).1 (u, nu) (by simp)
  have hpu : Pth G.E u i := h.topPth hc (u, nu) (by rw [hc]; simp)
  obtain ⟨y, y1, y2, y3⟩ := h.inv.lowIs i hi.2.1
  have a := h.inv.lowUpd (x := u) (y := y) ⟨(u, nu), by rw [hc]; simp, rfl⟩ y1 (hpu.trans y3)
  rw [y2] at a
  have e1 : upd s.low u (min (s.low u) (s.low i)) i = s.low i := upd_other _ _ _ _ (fun e => by rw [e] at hui; omega)
  have e2 : upd s.low u (min (s.low u) (s.low i)) u = min (s.low u) (s.low i) := upd_same _ _ _
  have hle := h.inv.lowLe i hi.2.1
  have b := a.pop (i := i) (nx := nx) (u := u) (nu := nu) (rest := rest) hc hnx (by
    show upd s.low u _ i < s.num i
    rw [e1]; omega) (by
    show upd s.low u _ u ≤ upd s.low u _ i
    rw [e1, e2]; omega)
  exact ⟨b, h.c1, h.c2, h.keep⟩
theorem RunInv.split (h : RunInv G num0 s) {i nx : Nat} {rest : List (Nat × Nat)} (hc : s.calls = (i, nx) :: rest) : ∃ pre suf, s.nodes = pre ++ i :: suf ∧ i ∉ pre := by
  obtain ⟨pre, suf, e⟩ := List.append_of_mem ((h.inv.onNodes i).1 (h.top hc).2.1)
  refine ⟨pre, suf, e, fun hm => ?_⟩
  have hs := h.inv.sorted
  rw [e] at hs
  have := (List.pairwise_append.1 hs).2.2 i hm i (by simp)
  omega
theorem RunInv.offEq (h : RunInv G num0 s) {i : Nat} {pre suf : List Nat} (hn : s.nodes = pre ++ i :: suf) (x : Nat) : x ∈ pre ++ [i] ↔ s.on x = true ∧ s.num i ≤ s.num x := by
  have hs := h.inv.sorted
  rw [hn] at hs
  have h3 := List.pairwise_append.1 hs
  constructor
  · intro hx
    refine ⟨(h.inv.onNodes x).2 (by rw [hn]; simp at hx ⊢; rcases hx with q | q; exact .inl q; exact .inr (.inl q)), ?_⟩
    rcases List.mem_append.1 hx with q | q
    · exact Int.le_of_lt (h3.2.2 x q i (by simp))
    · rw [List.mem_singleton.1 q]; exact Int.le_refl _
  · rintro ⟨ho, hle⟩
    have hm := (h.inv.onNodes x).1 ho
    rw [hn] at hm
    rcases List.mem_append.1 hm with q | q
    · exact List.mem_append_left _ q
    · rcases List.mem_cons.1 q with q | q
      · rw [q]; simp
      · have := (List.pairwise_cons.1 h3.2.1).1 x q
        omega
theorem RunInv.closeEq (h : RunInv G num0 s) {i : Nat} {pre suf : List Nat} {rest : List (Nat × Nat)} (hn : s.nodes = pre ++ i :: suf) :
    closeS s i suf rest = { s with on := offL s.on (pre ++ [i]), nodes := suf, part := partL s.part s.parts (pre ++ [i]), parts := s.parts + 1, calls := rest } := by
  have e1 : (fun x => s.on x && decide (s.num x < s.num i)) = offL s.on (pre ++ [i]) := by
    funext x
    unfold offL
    by_cases hx : x ∈ pre ++ [i]
    · rw [if_pos hx]
      have := (h.offEq hn x).1 hx
      rw [this.1]
      simp; omega
    · rw [if_neg hx]
      cases ho : s.on x
      · rfl
      · have : ¬ s.num i ≤ s.num x := fun hle => hx ((h.offEq hn x).2 ⟨ho, hle⟩)
        simp; omega
  have e2 : (fun x => if s.on x = true ∧ s.num i ≤ s.num x then (s.parts : Int) else s.part x) = partL s.part s.parts (pre ++ [i]) := by
    funext x
    unfold partL
    by_cases hx : x ∈ pre ++ [i]
    · rw [if_pos hx, if_pos ((h.offEq hn x).1 hx)]
    · rw [if_neg hx, if_neg (fun q => hx ((h.offEq hn x).2 q))]
  unfold closeS
  rw [e1, e2]
theorem RunInv.stepClose (h : RunInv G num0 s) {i nx : Nat} {rest : List (Nat × Nat)} (hc : s.calls = (i, nx) :: rest) (hnx : nx = G.S (i + 1)) (hl : s.low i = s.num i) {pre suf : List Nat} (hn : s.nodes = pre ++ i :: suf) :
    RunInv G num0 { s with on := offL s.on (pre ++ [i]), nodes := suf, part := partL s.part s.parts (pre ++ [i]), parts := s.parts + 1, calls := rest } := by
  have a := h.inv.close hc hnx hl hn
  rw [h.closeEq hn] at a
  refine ⟨a, h.c1, ?_, h.keep⟩
  have := h.c2
  rw [hn] at this
  simp at this
  show s.parts + 1 + suf.length ≤ s.seen
  omega
theorem RunInv.closeUp (h : RunInv G num0 s) {i nx u nu : Nat} {rest : List (Nat × Nat)} (hc : s.calls = (i, nx) :: (u, nu) :: rest) (hl : s.low i = s.num i) : upd s.low u (min (s.low u) (s.low i)) = s.low := by
  have hcs := h.inv.csorted
  rw [hc] at hcs
  have hui : s.num u < s.num i := (List.pairwise_cons.1 hcs).1 (u, nu) (by simp)
  have hu := h.inv.lowLe u (h.inv.callsOn (u, nu) (by rw [hc]; simp))
  funext x
  by_cases e : x = u
  · rw [e, upd_same, hl]; omega
  · exact upd_other _ _ _ _ e
theorem RunInv.last (h : RunInv G num0 s) {i nx : Nat} (hc : s.calls = [(i, nx)]) : s.low i = s.num i := h.inv.last hc
theorem RunInv.off (h : RunInv G num0 s) (hc : s.calls = []) (x : Nat) : s.on x = false := by
  cases e : s.on x
  · rfl
  · obtain ⟨c, hcm, -⟩ := h.inv.bottom x e
    rw [hc] at hcm; cases hcm
theorem RunInv.noNodes (h : RunInv G num0 s) (hc : s.calls = []) : s.nodes = [] := by
  rcases hn : s.nodes with _ | ⟨x, l⟩
  · rfl
  · have := (h.inv.onNodes x).2 (by rw [hn]; simp)
    rw [h.off hc x] at this; cases this
/-- a root -/
theorem RunInv.start (h : RunInv G num0 s) (hc : s.calls = []) {x : Nat} (hx : s.num x = -1) (hn : x < G.n) :
    RunInv G num0 (seeS G s x) := by
  have a := h.inv.see hx hn (fun c hcm => by rw [hc] at hcm; cases hcm)
  have hu := unseen_upd (v := (s.seen : Int)) hx (by omega) G.n hn
  refine ⟨a, ?_, ?_, ?_⟩
  · have := h.c1
    show s.seen + 1 + unseen G.n (upd s.num x s.seen) = G.n
    omega
  · have := h.c2
    show s.parts + (x :: s.nodes).length ≤ s.seen + 1
    rw [List.length_cons]; omega
  · intro y hy
    show 0 ≤ upd s.num x _ y
    by_cases e : y = x
    · rw [e, upd_same]; omega
    · rw [upd_other _ _ _ _ e]; exact h.keep y hy
end
end Go.Proofs.Ytnlaonppgebpoaa

namespace Go.Proofs.Ytnlaonppgebpoaa
open Go.RowKit

theorem least (p : Nat → Prop) (h : ∃ m, p m) : ∃ m, p m ∧ ∀ k, p k → m ≤ k := by
  obtain ⟨m, hm⟩ := h
  induction m using Nat.strongRecOn with
  | _ m ih =>
    by_cases e : ∃ k, k < m ∧ p k
    · obtain ⟨k, hk, hp⟩ := e
      exact ih k hk hp
    · exact ⟨m, hm, fun k hk => Nat.le_of_not_lt fun hlt => e ⟨k, hlt, hk⟩⟩
open Classical in
noncomputable def leastN (p : Nat → Prop) : Nat := if h : ∃ m, p m then Classical.choose (least p h) else 0
theorem leastN_spec {p : Nat → Prop} (h : ∃ m, p m) : p (leastN p) ∧ ∀ k, p k → leastN p ≤ k := by
  unfold leastN
  rw [dif_pos h]
  exact Classical.choose_spec (least p h)
/-- jumps back to one label; a number goes down -/
theorem wp_scope_down {P : Program} {a : Act} {w : World} {Q : Exit → Act → World → Prop} {c rest : Code} (l : Nat) (J : Nat → Act → World → Prop) (hf : findLabel c l = some rest)
    (first : c.wp P (Exit.jump l (fun a w => ∃ m, J m a w) Q) a w)
    (pass : ∀ m a w, J m a w → rest.wp P (Exit.jump l (fun a' w' => ∃ m', m' < m ∧ J m' a' w') Q) a w) : (Code.scope c).wp P Q a w := by
  refine wp_scope_jumps l (fun a w => ∃ m, J m a w) (fun a w => leastN (fun m => J m a w)) hf first ?_
  intro a w hJ
  refine Code.wp_mono ?_ (pass _ a w (leastN_spec hJ).1)
  intro e a' w' he
  cases e <;> try exact he
  obtain ⟨rfl, m', hlt, hJ'⟩ := he
  exact ⟨rfl, ⟨m', hJ'⟩, Nat.lt_of_le_of_lt ((leastN_spec ⟨m', hJ'⟩).2 _ hJ') hlt⟩

theorem wp_scope_down2 {P : Program} {a : Act} {w : World} {Q : Exit → Act → World → Prop} {c rest : Code} (l : Nat) (J : Nat → Act → World → Prop) (hf : findLabel c l = some (Code.skip.seq rest))
    (pass : ∀ m a w, J m a w → rest.wp P (Exit.jump l (fun a' w' => ∃ m', m' < m ∧ J m' a' w') Q) a w)
    (first : (∀ m a w, J m a w → rest.wp P (Exit.jump l (fun a w => ∃ m, J m a w) Q) a w) → c.wp P (Exit.jump l (fun a w => ∃ m, J m a w) Q) a w) : (Code.scope c).wp P Q a w := by
  refine wp_scope_down l J hf (first fun m a w h => ?_) (fun m a w h => wp_seq (wp_skip (pass m a w h)))
  refine Code.wp_mono ?_ (pass m a w h)
  intro e a' w' he
  cases e <;> try exact he
  exact ⟨he.1, he.2.choose, he.2.choose_spec.2⟩

/-- a region that draws its order and only reads -/
theorem region_still {P : Program} {id : Nat} {Q : Exit → Act → World → Prop} {a : Act} {w : World} {l : List Oper} (hm : P.follows .mixedOrders = true) (hB : Region.lexB .any l.toArray = true)
    (h : wpStill P l.toArray w.drew (fun a' => Q .normal a' w.drew) l a) : (Code.region id l.toArray true).wp P Q a w := wp_region_still_lit hm hB h

theorem clC_get (l : List (Nat × Nat)) (c : Nat × Nat) : (clC (c :: l))[l.length * 2]? = some (.int .i64 (c.1 : Nat)) ∧ (clC (c :: l))[l.length * 2 + 1]? = some (.int .i64 (c.2 : Nat)) := by
  rw [clC_cons]
  constructor
  · rw [List.getElem?_append_right (by rw [clC_len]; omega), clC_len]; simp
  · rw [List.getElem?_append_right (by rw [clC_len]; omega), clC_len]; simp
section
variable {w wr : World} {gS gA gT : Value} {sb bn bl bo bp base n : Nat} {num low : Nat → Int} {on : Nat → Bool} {nodes : List Nat} {part : Nat → Int} {parts : Nat} {calls : List (Nat × Nat)} {nv cv : Value}
/-- the top call -/
theorem SrM.topCall {x y : Nat} (h : SrM w wr gS gA gT sb bn bl bo bp base n num low on nodes part parts ((x, y) :: calls) nv cv) :
    ∃ g cap, cv = .slice (some ⟨g, 0, none⟩) (calls.length + 1) cap ∧ calls.length + 1 ≤ cap ∧ cap ≤ maxLen ∧ wr.cell? ⟨g, calls.length * 2, none⟩ = some (.int .i64 (x : Nat)) ∧ wr.cell? ⟨g, calls.length * 2 + 1, none⟩ = some (.int .i64 (y : Nat)) ∧ (∀ i, wr.frozen? ⟨g, i, none⟩ = false) ∧
      (∀ z : Nat, SrM w (wr.setCell ⟨g, calls.length * 2 + 1, none⟩ (.int .i64 (z : Nat))) gS gA gT sb bn bl bo bp base n num low on nodes part parts ((x, z) :: calls) nv cv) ∧
      SrM w (wr.setCell ⟨sb, 9, none⟩ (.slice (some ⟨g, 0, none⟩) calls.length cap)) gS gA gT sb bn bl bo bp base n num low on nodes part parts calls nv (.slice (some ⟨g, 0, none⟩) calls.length cap) := by
  obtain ⟨hl, h2⟩ := h.rc
  rcases h2 with ⟨-, h0⟩ | ⟨g, cap, cur, rfl, hb, hg, hn, hc, hs, ht⟩
  · simp at h0
  have hlen : ((x, y) :: calls).length = calls.length + 1 := rfl
  rw [hlen] at hn ht ⊢
  obtain ⟨d1, d2, d3⟩ := h.d
  have hbs := h.hb
  obtain ⟨e1, e2⟩ := clC_get calls (x, y)
  have hsz : calls.length * 2 + 1 < cur.size := by rw [hs]; omega
  refine ⟨g, cap, rfl, hn, hc, ?_, ?_, fun i => free_of_block hg i, fun z => ?_, ?_⟩
  · refine cell_of_block hg _ _ ?_
    rw [← ht, List.getElem?_take, if_pos (by omega)] at e1
    simpa using e1
  · refine cell_of_block hg _ _ ?_
    rw [← ht, List.getElem?_take, if_pos (by omega)] at e2
    simpa using e2
  · have hf : Frm (fun q => q = g) wr (wr.setCell ⟨g, calls.length * 2 + 1, none⟩ (.int .i64 (z : Nat))) := (Frm.refl (fun q => q = g) wr).setCell (p := ⟨g, calls.length * 2 + 1, none⟩) (fun _ => rfl) _
    refine ⟨h.below.setCell (p := ⟨g, calls.length * 2 + 1, none⟩) (show w.heap.size ≤ g by omega) _, hf.heap h.hs (by omega), hf.heap h.hn (by omega), hf.heap h.hl (by omega), hf.heap h.ho (by omega), hf.heap h.hp (by omega), ?_, ⟨by rw [clC_len], .inr ⟨g, cap, cur.setIfInBounds (calls.length * 2 + 1) (.int .i64 (z : Nat)), rfl, hb, ?_, hn, hc, by simpa using hs, ?_⟩⟩, h.d, by simpa using h.hb⟩
    · refine ownsRow_frm h.rn hf (fun q hq e => ?_)
      subst e
      rcases h.rn.2 with ⟨rfl, -⟩ | ⟨g3, cap3, cur3, rfl, -, hg3, -⟩
      · simp [Value.ownBlock] at hq
      · simp [Value.ownBlock] at hq
        subst hq
        rw [hg3] at hg
        simp at hg
    · rw [heap_setCell_block hg]
    · have e3 : ((cur.toList.take ((calls.length + 1) * 2)).set (calls.length * 2 + 1) (.int .i64 (z : Nat))) = clC ((x, z) :: calls) := by
        rw [ht, clC_cons, clC_cons, List.set_append_right _ _ (by rw [clC_len]; omega), clC_len]
        have : calls.length * 2 + 1 - calls.length * 2 = 1 := by omega
        rw [this]; rfl
      rw [← e3, Array.toList_setIfInBounds, List.take_set]
      rfl
  · have hf : Frm (fun q => q = sb) wr (wr.setCell ⟨sb, 9, none⟩ (.slice (some ⟨g, 0, none⟩) calls.length cap)) := (Frm.refl (fun q => q = sb) wr).setCell (p := ⟨sb, 9, none⟩) (fun _ => rfl) _
    refine ⟨h.below.setCell (p := ⟨sb, 9, none⟩) d1.1 _, ?_, hf.heap h.hn (by omega), hf.heap h.hl (by omega), hf.heap h.ho (by omega), hf.heap h.hp (by omega), ownsRow_frm h.rn hf (fun q hq e => by have := (h.rn.lt q hq).1; omega), ⟨by rw [clC_len], .inr ⟨g, cap, cur, rfl, hb, hf.heap hg (by omega), by omega, hc, hs, ?_⟩⟩, h.d, by simpa using h.hb⟩
    · rw [heap_setCell_block h.hs]; rfl
    · have e : (clC ((x, y) :: calls)).take (calls.length * 2) = clC calls := by
        rw [clC_cons, List.take_append_of_le_length (by rw [clC_len]; exact Nat.le_refl _), List.take_of_length_le (by rw [clC_len]; exact Nat.le_refl _)]
      rw [← e, ← ht, List.take_take]
      congr 1
      omega
end
end Go.Proofs.Ytnlaonppgebpoaa
