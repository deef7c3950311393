/-
  ref17.Parts: the walk. ref17.Parts: the walk. ref17.groups: the walk. Groups and Within answer as the document says: plain.
-/
import Derived.Test.YtlhpjfnfemebdaaGroupFns
import Derived.Test.YtlhpjfnfemebdaaJRReach
namespace Go.Proofs.Ytlhpjfnfemebdaa
open Go.RowKit
theorem Try.info39 : (Try.prog.info? 39).map (fun i => (i.zero, i.size, i.bytes)) = some (some (.slice none 0 0), 1, 24) := by kernel_rfl
structure RbM (w wr : World) (gc : Array Value) (g : Gr) (n : Nat) (ov : Value) (k : Nat) (vals : List Value) : Prop where
 below : Below w.heap.size w wr
 vg : wr.heap[w.heap.size]? = some (.cells gc 30 (0, 0))
 len : vals.length = k
 out : wr.ownsRow (w.heap.size + 1) 39 1 ov k vals
 inn : ∀ j, j < k → ∃ B, vals.getD j undef = .slice (some ⟨B, 0, none⟩) n n ∧ w.heap.size < B ∧ wr.heap[B]? = some (.cells (bools (reachL g [(j : Int)])) 4 (0, 0)) ∧ ov.ownBlock ≠ some B
section
variable {w wr w' : World} {gc : Array Value} {g : Gr} {n k : Nat} {ov : Value} {vals : List Value}
theorem RbM.more (h : RbM w wr gc g n ov k vals) (hb : Below wr.heap.size wr w') : RbM w w' gc g n ov k vals :=
 ⟨h.below.trans (hb.mono h.below.size), bheap hb h.vg, h.len, ownsRow_frm (F := fun _ => False) h.out (bfrm hb _) (fun _ _ => id), fun j hj => by
  obtain ⟨B, e, h1, h2, h3⟩ := h.inn j hj
  exact ⟨B, e, h1, bheap hb h2, h3⟩⟩
theorem RbM.var (h : RbM w wr gc g n ov k vals) : ∃ a cap, ov = .slice a k cap := by
 rcases h.out.2 with ⟨rfl, e⟩ | ⟨g, cap, cur, rfl, -⟩
 ·exact ⟨none, 0, by rw [e]⟩
 ·exact ⟨_, cap, rfl⟩
theorem RbM.push (h : RbM w wr gc g n ov k vals) {w1 : World} (hb : Below wr.heap.size wr w1) {B : Nat} (hB : wr.heap.size ≤ B) (hBr : w1.heap[B]? = some (.cells (bools (reachL g [(k : Int)])) 4 (0, 0))) {o : Obj} {g3 cap : Nat}
  (hg : (w1.alloc o).grownBy w' ov.ownBlock) (hor : ov.ownBlock = some g3 ∨ g3 = w1.heap.size + 1) (hown : w'.ownsRow (w.heap.size + 1) 39 1 (.slice (some ⟨g3, 0, none⟩) (k + 1) cap) (k + 1) (vals ++ [.slice (some ⟨B, 0, none⟩) n n])) :
  RbM w w' gc g n (.slice (some ⟨g3, 0, none⟩) (k + 1) cap) (k + 1) (vals ++ [.slice (some ⟨B, 0, none⟩) n n]) := by
 have h1 := h.more (hb.trans ((balloc w1 o).mono hb.size))
 have hsz := h.below.size
 have hsz1 := hb.size
 have hlen := h.len
 have hBlt := (Array.getElem?_eq_some_iff.1 hBr).1
 have hvl := (Array.getElem?_eq_some_iff.1 h.vg).1
 have holt : ∀ q, ov.ownBlock = some q → q < wr.heap.size := fun q hq => (h.out.lt q hq).2
 have hBo : ov.ownBlock ≠ some B := fun e => by have := holt B e; omega
 have hkeep : ∀ (q : Nat) (ob : Obj), ov.ownBlock ≠ some q → (w1.alloc o).heap[q]? = some ob → w'.heap[q]? = some ob := fun q ob hq hh => by
  rw [hg.block q (Array.getElem?_eq_some_iff.1 hh).1 (fun e => hq e.symm)]; exact hh
 refine ⟨Below.own (v := ov) (h.below.trans (hb.mono hsz)) (m := k) (xs := vals) (e := 39) (size := 1) ?_ hg, hkeep _ _ (fun e => by have := (h.out.lt _ e).1; omega) h1.vg, by simp [hlen], hown, fun j hj => ?_⟩
 ·have := ownsRow_frm (F := fun _ => False) h.out (bfrm hb _) (fun _ _ => id)
  obtain ⟨l, r⟩ := this
  refine ⟨l, ?_⟩
  rcases r with r | ⟨g, cap, cur, e, hbg, r⟩
  ·exact .inl r
  ·exact .inr ⟨g, cap, cur, e, by omega, r⟩
 ·by_cases e : j < k
  ·obtain ⟨B', e1, e2, e3, e4⟩ := h1.inn j e
   refine ⟨B', by rw [getD_snoc _ _ _ _ (by omega), if_pos (by omega)]; exact e1, e2, hkeep _ _ e4 e3, ?_⟩
   intro e5
   have e6 : g3 = B' := by simpa [Value.ownBlock] using e5
   subst e6
   rcases hor with e7 | e7
   ·exact e4 e7
   ·obtain ⟨B2, e8, -, e9, -⟩ := h.inn j e
    rw [e1] at e8
    have : g3 = B2 := by simpa using e8
    subst this
    have := (Array.getElem?_eq_some_iff.1 e9).1
    omega
  ·obtain rfl : j = k := by omega
   refine ⟨B, by rw [getD_snoc _ _ _ _ (by omega), if_neg (by omega)], by omega, hkeep _ _ hBo (bheap (balloc _ _) hBr), ?_⟩
   intro e5
   have e6 : g3 = B := by simpa [Value.ownBlock] using e5
   rcases hor with e7 | e7
   ·rw [e6] at e7; exact hBo e7
   ·omega
theorem RbM.cell (h : RbM w wr gc g n ov k vals) (hR : Rt g) (hgn : nodesN g = n) {i j : Nat} (hi : i < k) (hj : j < n) :
  ∃ ob oc B, ov = .slice (some ⟨ob, 0, none⟩) k oc ∧ wr.cell? ⟨ob, i, none⟩ = some (.slice (some ⟨B, 0, none⟩) n n) ∧ wr.cell? ⟨B, j, none⟩ = some (.bool ((reachL g [(i : Int)]).getD j false)) := by
 obtain ⟨ob, e1, ⟨oc, e3⟩, e2⟩ := ownsRow_cell h.out hi
 obtain ⟨B, e4, -, e5, -⟩ := h.inn i hi
 refine ⟨ob, oc, B, e3, by rw [e2, e4], cell_of_block e5 j _ (bools_get _ j (by rw [reachL_len hR, hgn]; exact hj))⟩
end
def ptv (E : Nat → Nat → Bool) (i q : Nat) : Int := match (List.range q).find? (fun k => E i k) with | some j => ((cnV E j : Nat) : Int) | none => -1
theorem ptv_skip {E : Nat → Nat → Bool} {i q : Nat} (h : 0 ≤ ptv E i q ∨ E i q = false) : ptv E i (q + 1) = ptv E i q := by
 unfold ptv at h ⊢
 rw [List.range_succ, List.find?_append]
 rcases e : (List.range q).find? (fun k => E i k) with _ | j
 ·rw [e] at h
  rcases h with h | h
  ·simp at h
  ·simp [h]
 ·rfl
theorem ptv_hit {E : Nat → Nat → Bool} {i q : Nat} (h : ptv E i q < 0) (hE : E i q = true) : ptv E i (q + 1) = ((cnV E q : Nat) : Int) := by
 unfold ptv at h ⊢
 rw [List.range_succ, List.find?_append]
 rcases e : (List.range q).find? (fun k => E i k) with _ | j
 ·simp [hE]
 ·rw [e] at h; simp at h; omega
theorem ptv_old {E : Nat → Nat → Bool} {i : Nat} (h : 0 ≤ ptv E i i) : ((cnS E (i + 1)).1.map (fun x : Nat => (x : Int))) = (cnS E i).1.map (fun x : Nat => (x : Int)) ++ [ptv E i i] ∧ (cnS E (i + 1)).2 = (cnS E i).2 := by
 unfold ptv at h ⊢
 rcases e : (List.range i).find? (fun k => E i k) with _ | j
 ·rw [e] at h; simp at h
 ·refine ⟨?_, cnS_next_some e⟩
  show (cnStep E i (cnS E i)).1.map _ = _
  unfold cnStep
  rw [e]
  simp only [List.map_append, List.map_cons, List.map_nil]
  rw [cnS_getD E i j (List.mem_range.1 (List.mem_of_find?_eq_some e))]
theorem ptv_new {E : Nat → Nat → Bool} {i : Nat} (h : ptv E i i < 0) : ((cnS E (i + 1)).1.map (fun x : Nat => (x : Int))) = (cnS E i).1.map (fun x : Nat => (x : Int)) ++ [(((cnS E i).2 : Nat) : Int)] ∧ (cnS E (i + 1)).2 = (cnS E i).2 + 1 := by
 unfold ptv at h
 rcases e : (List.range i).find? (fun k => E i k) with _ | j
 ·refine ⟨?_, cnS_next_none e⟩
  show (cnStep E i (cnS E i)).1.map _ = _
  unfold cnStep
  rw [e]
  simp
 ·rw [e] at h; simp at h; omega
noncomputable def RE (g : Gr) (i k : Nat) : Bool := (reachL g [(i : Int)]).getD k false && (reachL g [(k : Int)]).getD i false
theorem RE_parts (g : Gr) : (cnS (RE g) (nodesN g)).1 = partsL g := by
 refine partsL_congr fun i k hi hk => ?_
 have hR : Rt g := by
  refine (rightB_iff g).1 ?_
  cases e : rightB g
  ·rw [nodesN_not e] at hi; omega
  ·rfl
 unfold RE
 rw [Bool.and_eq_true, reach_pth hR hi (by omega), reach_pth hR (by omega) hi]
 exact Iff.rfl
end Go.Proofs.Ytlhpjfnfemebdaa
namespace Go.Proofs.Ytlhpjfnfemebdaa
open Go.RowKit
set_option maxRecDepth 100000 in
set_option maxHeartbeats 8000000 in
theorem rparts_ok (v : Value) (g : Gr) (w : World) (h : GraphAt w v g) (hn : nodesN g ≤ 100000) :
  Calls Try.prog 59 #[v] w fun e w' => ∃ rv, e = .returned rv ∧ IntsAt w' rv (partsI g) ∧ Below w.heap.size w w' := by
 obtain ⟨i0, hi0, hz0, hz1, hz2⟩ := info_parts (Try.info3)
 obtain ⟨j0, hj0, hw0, hw1, hw2⟩ := info_parts Try.info39
 obtain ⟨sa, aa, ta, sc, ac, tc, rfl, -⟩ := h.var
 have hb := balloc w (.cells #[.slice sa g.S.length sc, .slice aa g.A.length ac, .slice ta g.T.length tc] 30)
 have NN := Lib.hid (rnodes_ok _ g _ (h.below hb))
 have HB := Lib.hid hb
 have X0 := Lib.hid (heap_alloc_new w (.cells #[.slice sa g.S.length sc, .slice aa g.A.length ac, .slice ta g.T.length tc] 30))
 have hRt : 0 < nodesN g → Rt g := fun h0 => by
  refine (rightB_iff g).1 ?_
  cases e : rightB g
  ·rw [nodesN_not e] at h0; omega
  ·rfl
 have HR := Lib.hid hRt
 have RCH := Lib.hid (fun (hR : Rt g) (w' : World) (hw : Below w.heap.size w w') (u : Value) (fr : List Int) (hu : IntsAt w' u fr) (hl : fr.length ≤ 1000000) => rreach_new _ u g fr w' (h.below hw) hu hR hl)
 have RP := Lib.hid (RE_parts g)
 clear h hb hRt
 obtain ⟨n, hnn⟩ : ∃ n, nodesN g = n := ⟨_, rfl⟩
 rw [hnn] at NN hn HR RP
 have HNN := Lib.hid hnn
 clear hnn
 go_enter Try.func59, Try.ntmps59
 go_wp2_with (first
  | (go_at_call 55; refine NN.out.mono ?_; rintro e w1 ⟨rfl, hb1⟩; have hb2 := HB.out.trans (hb1.mono HB.out.size); have R0 := Lib.hid (show RbM w w1 #[.slice sa g.S.length sc, .slice aa g.A.length ac, .slice ta g.T.length tc] g n (.slice none 0 0) 0 [] from ⟨hb2, bheap hb1 X0.out, rfl, World.ownsRow_nil _ _ _ _, fun j hj => by omega⟩); have d0 := bkeep hb1 (cell_of_block X0.out 0 _ rfl); have d1 := bkeep hb1 (cell_of_block X0.out 1 _ rfl); have d2 := bkeep hb1 (cell_of_block X0.out 2 _ rfl); clear hb1 hb2))
 clear d0 d1 d2 NN HB X0
 go_loopg [4, 5] n (fun fu ov c wr => ∃ (k : Nat) (vals : List Value), k + fu = n ∧ c = .int .i64 k ∧ Hid (RbM w wr #[.slice sa g.S.length sc, .slice aa g.A.length ac, .slice ta g.T.length tc] g n ov k vals))
 case atStart => exact ⟨0, [], by omega, rfl, R0⟩
 case round =>
  clear R0
  obtain ⟨k, vals, hk, rfl, HM⟩ := hrel
  obtain ⟨oa, oc, rfl⟩ := HM.out.var
  by_cases hlt : k < n
  ·have i1 : (k : Int) < (n : Int) := by omega
   have hR := HR.out (by omega)
   have d0 := cell_of_block HM.out.vg 0 _ rfl
   have d1 := cell_of_block HM.out.vg 1 _ rfl
   have d2 := cell_of_block HM.out.vg 2 _ rfl
   have HI : Hid (IntsAt (wr.alloc (.cells #[.int .i64 k] 3)) (.slice (some ⟨wr.heap.size, 0, none⟩) 1 1) [(k : Int)]) := Lib.hid (intsAt_block (xs := [(k : Int)]) (heap_alloc_new wr _) rfl 1)
   have HC := Lib.hid (RCH.out hR (wr.alloc (.cells #[.int .i64 k] 3)) (HM.out.below.trans ((balloc wr _).mono HM.out.below.size)) _ _ HI.out (by simp))
   have HL : Hid ((reachL g [(k : Int)]).length = n) := Lib.hid (by rw [reachL_len hR, HNN.out])
   have HR2 := Lib.hid hR
   clear hR
   go_wp2_with (first
    | (go_at_call 35; refine HC.out.mono ?_; rintro e w1 ⟨B, rfl, hB, hBl, hb1⟩; rw [HL.out]; have HB := Lib.hid hB; have HBL := Lib.hid hBl; have HB1 := Lib.hid ((balloc wr (.cells #[.int .i64 k] 3)).trans (hb1.mono (balloc wr _).size)); have hs1 := HB1.out.size; clear hB hBl hb1)
    | (at_builtin; refine wpList_append_lies (w1.alloc (.cells #[.slice (some ⟨B, 0, none⟩) n n] 39)) rfl (.tmp 18) (.tmp 23) 36 rfl (w.heap.size + 1) 39 j0 (.slice none 0 0) 1 24 Try.underlying36 hj0 hw0 hw1 hw2 rfl (by decide) (.slice oa k oc) k vals rfl (((HM.out.more HB1.out).out).alloc _) ⟨w1.heap.size, 0, none⟩ 1 1 [.slice (some ⟨B, 0, none⟩) n n] rfl rfl (World.news_of_block (heap_alloc_new _ _)) (by simp [Value.oneCell']) (by omega) (by unfold maxLen; omega) (by omega) (by have := (Array.getElem?_eq_some_iff.1 HM.out.vg).1; simp; omega) (w1.heap.size + 1) (by simp) ?_; intro g3 cap3 w3 hown3 hgr3 hor3 hlt3; have HM3 := Lib.hid (HM.out.push HB1.out (by have := HBL.out; simp at this; omega) HB.out hgr3 hor3 hown3); clear hown3 hgr3 hor3))
   go_roundg (n - (k + 1))
   case measure => omega
   case rel => exact ⟨k + 1, _, by omega, by simp, HM3⟩
  ·obtain rfl : k = n := by omega
   obtain ⟨W2, rfl⟩ : ∃ z : World, z = wr := ⟨_, rfl⟩
   go_wp2_with fail
   go_loopg [6, 7, 8] k (fun fu tv nx c wr2 => ∃ i : Nat, i + fu = k ∧ c = .int .i64 i ∧ nx = .int .i64 (((cnS (RE g) i).2 : Nat) : Int) ∧ Hid (Below W2.heap.size W2 wr2 ∧ wr2.ownsRow W2.heap.size 3 1 tv i (((cnS (RE g) i).1.map (fun x : Nat => (x : Int))).map (Value.int .i64))))
   case atStart => exact ⟨0, by omega, rfl, rfl, Lib.hid ⟨Below.refl _ _, World.ownsRow_nil _ _ _ _⟩⟩
   case round =>
    obtain ⟨i, hik, rfl, rfl, HS⟩ := hrel
    by_cases hlt2 : i < k
    ·have hR := HR.out (by omega)
     have hM2 := HM.out.more HS.out.1
     have HM2 := Lib.hid hM2
     have HR2 := Lib.hid hR
     obtain ⟨ob, oc', B0, e0, -, -⟩ := hM2.cell hR HNN.out hlt2 hlt2
     simp only [Value.slice.injEq, true_and] at e0
     obtain ⟨rfl, rfl⟩ := e0
     clear hM2 hR
     have j1 : (i : Int) < (k : Int) := by omega
     obtain ⟨wr3, rfl⟩ : ∃ z : World, z = wr := ⟨_, rfl⟩
     go_wp2_with fail
     go_loopg [9, 10] i (fun fu p c wr4 => ∃ q : Nat, q + fu = i ∧ c = .int .i64 q ∧ p = .int .i64 (ptv (RE g) i q) ∧ wr3 = wr4)
     case atStart => exact ⟨0, by omega, rfl, rfl, rfl⟩
     case round =>
      obtain ⟨q, hqi, rfl, rfl, rfl⟩ := hrel
      by_cases hlt3 : q < i
      ·have j2 : (q : Int) < (i : Int) := by omega
       have j3 : (q : Int) < (k : Int) := by omega
       obtain ⟨ob1, oc1, B1, e1, c1, c2⟩ := HM2.out.cell HR2.out HNN.out hlt2 (j := q) (by omega)
       simp only [Value.slice.injEq, Option.some.injEq, Addr.mk.injEq, and_true, true_and] at e1
       obtain ⟨rfl, -⟩ := e1
       obtain ⟨ob1, oc1, B2, e1, c3, c4⟩ := HM2.out.cell HR2.out HNN.out (i := q) (j := i) (by omega) hlt2
       simp only [Value.slice.injEq, Option.some.injEq, Addr.mk.injEq, and_true, true_and] at e1
       obtain ⟨rfl, -⟩ := e1
       have hS1 := Lib.hid (ptv_skip (E := RE g) (i := i) (q := q))
       have hS2 := Lib.hid (ptv_hit (E := RE g) (i := i) (q := q))
       have hRE : Hid (RE g i q = ((reachL g [(i : Int)]).getD q false && (reachL g [(q : Int)]).getD i false)) := Lib.hid rfl
       obtain ⟨tb, -, ⟨tc, rfl⟩, c5⟩ := ownsRow_cell HS.out.2 hlt3
       have hcq : ((List.map (Value.int .i64) (List.map (fun x : Nat => (x : Int)) (cnS (RE g) i).1)).getD q undef) = .int .i64 ((cnV (RE g) q : Nat) : Int) := by
        have e := cnS_getD (RE g) i q hlt3
        have hl := cnS_len (RE g) i
        rw [List.getD_eq_getElem?_getD, List.getElem?_eq_getElem (by omega)] at e
        simp only [Option.getD_some] at e
        simp [hl, hlt3, e]
       rw [hcq] at c5
       clear hcq
       generalize (reachL g [(i : Int)]).getD q false = r1 at *
       generalize (reachL g [(q : Int)]).getD i false = r2 at *
       obtain ⟨p, hp⟩ : ∃ p, ptv (RE g) i q = p := ⟨_, rfl⟩
       rw [hp] at hS1 hS2
       have HPP := Lib.hid hp
       rw [hp]
       clear hp
       by_cases hneg : p < 0
       ·cases r1
        ·have e := hS1.out (.inr (by rw [hRE.out]; rfl))
         have E := Lib.hid e
         clear hS1 hS2 e
         go_wp2_with fail
         go_roundg (i - (q + 1))
         case measure => omega
         case rel => exact ⟨q + 1, by omega, by simp, by rw [E.out], rfl⟩
        ·cases r2
         ·have e := hS1.out (.inr (by rw [hRE.out]; rfl))
          have E := Lib.hid e
          clear hS1 hS2 e
          go_wp2_with fail
          go_roundg (i - (q + 1))
          case measure => omega
          case rel => exact ⟨q + 1, by omega, by simp, by rw [E.out], rfl⟩
         ·have e := hS2.out hneg (by rw [hRE.out]; rfl)
          have E := Lib.hid e
          clear hS1 hS2 e
          go_wp2_with fail
          go_roundg (i - (q + 1))
          case measure => omega
          case rel => exact ⟨q + 1, by omega, by simp, by rw [E.out], rfl⟩
       ·have e := hS1.out (.inl (by omega))
        have E := Lib.hid e
        clear hS1 hS2 e
        go_wp2_with fail
        go_roundg (i - (q + 1))
        case measure => omega
        case rel => exact ⟨q + 1, by omega, by simp, by rw [E.out], rfl⟩
      ·obtain rfl : q = i := by omega
       obtain ⟨p, hp⟩ : ∃ p, ptv (RE g) q q = p := ⟨_, rfl⟩
       obtain ⟨nz, hnz⟩ : ∃ z, (cnS (RE g) q).2 = z := ⟨_, rfl⟩
       have hnl := cnS_next_le (RE g) q
       rw [hnz] at hnl ⊢
       rw [hp]
       by_cases hneg : p < 0
       ·have HY := Lib.hid (ptv_new (E := RE g) (i := q) (by rw [hp]; exact hneg))
        rw [hnz] at HY
        have hw : IntKind.i64.wrap ((nz : Int) + 1) = (nz : Int) + 1 := IntWalk.i64_in _ (by omega)
        clear hp hnz
        go_wp2_with (at_builtin; refine wpList_append_lies (wr3.alloc (.cells #[.int .i64 nz] 3)) rfl (.tmp 64) (.tmp 66) 22 rfl W2.heap.size 3 i0 (.int .i64 0) 1 8 Try.underlying22 hi0 hz0 hz1 hz2 rfl (by decide) u6 q _ rfl (HS.out.2.alloc _) ⟨wr3.heap.size, 0, none⟩ 1 1 [.int .i64 nz] rfl rfl (World.news_of_block (heap_alloc_new _ _)) (by simp [Value.oneCell']) (by omega) (by unfold maxLen; omega) (by omega) (by have := HS.out.1.size; simp; omega) (wr3.heap.size + 1) (by simp) ?_; intro g3 cap3 w3 hown3 hgr3 hor3 hlt3; have HO3 := Lib.hid hown3; have HB3 := Lib.hid (Below.own HS.out.1 HS.out.2 hgr3); clear hown3 hgr3 hor3)
        go_roundg (k - (q + 1))
        case measure => omega
        case rel => exact ⟨q + 1, by omega, by simp, by rw [HY.out.2]; rfl, Lib.hid ⟨HB3.out, by rw [HY.out.1, List.map_append]; exact HO3.out⟩⟩
       ·have HY := Lib.hid (ptv_old (E := RE g) (i := q) (by rw [hp]; omega))
        rw [hnz, hp] at HY
        clear hp hnz
        go_wp2_with (at_builtin; refine wpList_append_lies (wr3.alloc (.cells #[.int .i64 p] 3)) rfl (.tmp 64) (.tmp 66) 22 rfl W2.heap.size 3 i0 (.int .i64 0) 1 8 Try.underlying22 hi0 hz0 hz1 hz2 rfl (by decide) u6 q _ rfl (HS.out.2.alloc _) ⟨wr3.heap.size, 0, none⟩ 1 1 [.int .i64 p] rfl rfl (World.news_of_block (heap_alloc_new _ _)) (by simp [Value.oneCell']) (by omega) (by unfold maxLen; omega) (by omega) (by have := HS.out.1.size; simp; omega) (wr3.heap.size + 1) (by simp) ?_; intro g3 cap3 w3 hown3 hgr3 hor3 hlt3; have HO3 := Lib.hid hown3; have HB3 := Lib.hid (Below.own HS.out.1 HS.out.2 hgr3); clear hown3 hgr3 hor3)
        go_roundg (k - (q + 1))
        case measure => omega
        case rel => exact ⟨q + 1, by omega, by simp, by rw [HY.out.2], Lib.hid ⟨HB3.out, by rw [HY.out.1, List.map_append]; exact HO3.out⟩⟩
    ·obtain rfl : i = k := by omega
     go_wp2_with fail
     go_ret
     refine ⟨_, rfl, ?_, HM.out.below.trans (HS.out.1.mono HM.out.below.size)⟩
     have e : partsI g = (cnS (RE g) i).1.map (fun x : Nat => (x : Int)) := by unfold partsI; rw [← RP.out]
     have hl : ((cnS (RE g) i).1.map (fun x : Nat => (x : Int))).length = i := by simp [cnS_len]
     rw [e]
     exact own_ints (by rw [hl]; exact HS.out.2)
end Go.Proofs.Ytlhpjfnfemebdaa
namespace Go.Proofs.Ytlhpjfnfemebdaa
open Go.RowKit
def refR (ps : List Int) (inn : Nat → Bool) (p : Nat) : List (List Int) := rowsI (((List.range p).map (fun p : Nat => rowOf (fun k => ps.getD k 0) inn ps.length (p : Int))).filter (fun r => !r.isEmpty))
def refI (ps : List Int) (inn : Nat → Bool) : List (List Int) := refR ps inn ps.length
def rowI (ps : List Int) (inn : Nat → Bool) (i : Nat) (p : Int) : List Int := (rowOf (fun k => ps.getD k 0) inn i p).map (fun k : Nat => (k : Int))
theorem refR_succ (ps : List Int) (inn : Nat → Bool) (p : Nat) : refR ps inn (p + 1) = if (rowI ps inn ps.length (p : Int)).length = 0 then refR ps inn p else refR ps inn p ++ [rowI ps inn ps.length (p : Int)] := by
 unfold refR rowI
 rw [List.range_succ, List.map_append, List.filter_append]
 simp only [List.map_cons, List.map_nil, List.filter_cons, List.filter_nil, List.length_map]
 cases h : rowOf (fun k => ps.getD k 0) inn ps.length (p : Int)
 ·simp
 ·simp [rowsI]
theorem refR_len (ps : List Int) (inn : Nat → Bool) (p : Nat) : (refR ps inn p).length ≤ p := by
 unfold refR
 rw [rowsI_len]
 refine Nat.le_trans (List.length_filter_le _ _) (by simp)
theorem rowI_succ (ps : List Int) (inn : Nat → Bool) (i : Nat) (p : Int) : rowI ps inn (i + 1) p = if ps.getD i 0 = p ∧ inn i = true then rowI ps inn i p ++ [(i : Int)] else rowI ps inn i p := by
 unfold rowI
 rw [rowOf_succ]
 by_cases h1 : ps.getD i 0 = p
 ·cases h2 : inn i
  ·simp
  ·simp only [decide_eq_true h1, Bool.and_self, if_true]
   rw [if_pos (show ps.getD i 0 = p ∧ True from ⟨h1, trivial⟩)]
   simp
 ·have : ¬ (ps.getD i 0 = p ∧ inn i = true) := fun h => h1 h.1
  rw [if_neg this]
  simp only [decide_eq_false h1, Bool.and_false]
  simp
theorem rowI_len (ps : List Int) (inn : Nat → Bool) (i : Nat) (p : Int) : (rowI ps inn i p).length ≤ i := by
 unfold rowI
 rw [List.length_map]
 exact rowOf_len i p
theorem own_var {w : World} {base : Nat} {e : TypeId} {size : Nat} {v : Value} {n : Nat} {xs : List Value} (h : w.ownsRow base e size v n xs) : ∃ a c, v = .slice a n c := by
 rcases h.2 with ⟨rfl, e⟩ | ⟨g, cap, cur, rfl, -⟩
 ·exact ⟨none, 0, by rw [e]⟩
 ·exact ⟨_, cap, rfl⟩
theorem RowsM.pushNew {wr1 wr w' : World} {base : Nat} {ov nv : Value} {rows : List (List Int)} {vals : List Value} {row : List Int} {rl g cap : Nat} {o : Obj} (h : RowsM wr1 base ov rows vals) (hrl : rows.length = rl) (hbase : base ≤ wr1.heap.size) (hb : Below wr1.heap.size wr1 wr)
  (ho : wr.ownsRow wr1.heap.size 3 1 nv row.length (row.map (Value.int .i64))) (hg : (wr.alloc o).grownBy w' ov.ownBlock) (hor : ov.ownBlock = some g ∨ g = wr.heap.size + 1)
  (hown : w'.ownsRow base 22 1 (.slice (some ⟨g, 0, none⟩) (rl + 1) cap) (rl + 1) (vals ++ [nv])) : RowsM w' base (.slice (some ⟨g, 0, none⟩) (rl + 1) cap) (rows ++ [row]) (vals ++ [nv]) := by
 subst hrl
 refine ((h.more (hb.trans ((balloc wr o).mono hb.size))).push hg (by simpa using hor) hown (own_base (ho.alloc o) hbase) (fun q hq e => ?_) (fun j hj q hq e => ?_))
 ·have h1 := (ho.lt q hq).1
  have h2 := (h.out.lt q e).2
  omega
 ·have h1 := (ho.lt q hq).1
  have h2 := ((h.inn j hj).lt q e).2
  omega
set_option maxRecDepth 100000 in
set_option maxHeartbeats 8000000 in
theorem rgroups_ok (v u : Value) (ps : List Int) (l : List Bool) (w : World) (h : IntsAt w v ps) (hu : BoolsAt w u l) (hn : ps.length ≤ 1000000) (hl : l.length ≤ 1000000) :
  Calls Try.prog 60 #[v, u] w (RowsBack w (refI ps (fun i => l.getD i false))) := by
 obtain ⟨i0, hi0, hz0, hz1, hz2⟩ := info_parts (Try.info3)
 obtain ⟨j0, hj0, hw0, hw1, hw2⟩ := info_parts Try.info22
 obtain ⟨pa, pc, rfl, hp⟩ := h
 obtain ⟨ba, bc, rfl, hb⟩ := hu
 have HP := Lib.hid hp
 have HB := Lib.hid hb
 have RS := Lib.hid (fun p => refR_succ ps (fun i => l.getD i false) p)
 have RL := Lib.hid (fun p => refR_len ps (fun i => l.getD i false) p)
 have WS := Lib.hid (fun i p => rowI_succ ps (fun i => l.getD i false) i p)
 have WL := Lib.hid (fun i p => rowI_len ps (fun i => l.getD i false) i p)
 have W0 : Hid (∀ p, rowI ps (fun i => l.getD i false) 0 p = []) := Lib.hid (fun p => rfl)
 have R0 : Hid (refR ps (fun i => l.getD i false) 0 = []) := Lib.hid rfl
 unfold refI
 clear hp hb
 generalize refR ps (fun i => l.getD i false) = RR at *
 generalize rowI ps (fun i => l.getD i false) = WW at *
 obtain ⟨n, hnn⟩ : ∃ n, ps.length = n := ⟨_, rfl⟩
 rw [hnn] at HP hn RS ⊢
 clear hnn
 go_enter Try.func60, Try.ntmps60
 go_wp2_with fail
 go_loopg [5, 6] n (fun fu ov c wr => ∃ (p : Nat) (vals : List Value), p + fu = n ∧ c = .int .i64 p ∧ Hid (Below w.heap.size w wr) ∧ Hid (RowsM wr w.heap.size ov (RR p) vals))
 case atStart => exact ⟨0, [], by omega, rfl, Lib.hid (Below.refl _ _), Lib.hid (by rw [R0.out]; exact rowsM_nil _ _)⟩
 case round =>
  obtain ⟨p, vals, hpf, rfl, HBW, HM⟩ := hrel
  obtain ⟨oa, oc, rfl⟩ := HM.out.var
  by_cases hlt : p < n
  ·have i1 : (p : Int) < (n : Int) := by omega
   obtain ⟨wr1, rfl⟩ : ∃ z : World, z = wr := ⟨_, rfl⟩
   go_wp2_with fail
   go_loopg [7, 8] n (fun fu lv c wr => ∃ i : Nat, i + fu = n ∧ c = .int .i64 i ∧ Hid (Below wr1.heap.size wr1 wr) ∧ Hid (wr.ownsRow wr1.heap.size 3 1 lv (WW i (p : Int)).length ((WW i (p : Int)).map (Value.int .i64))))
   case atStart => exact ⟨0, by omega, rfl, Lib.hid (Below.refl _ _), Lib.hid (by rw [W0.out]; exact World.ownsRow_nil _ _ _ _)⟩
   case round =>
    obtain ⟨i, hif, rfl, HB2, HO⟩ := hrel
    by_cases hlt2 : i < n
    ·have j1 : (i : Int) < (n : Int) := by omega
     obtain ⟨b1, o1, rfl, d1⟩ := HP.out i hlt2
     have y1 := bkeep (HBW.out.trans (HB2.out.mono HBW.out.size)) d1
     have hws := WS.out i (p : Int)
     have hwl := WL.out i (p : Int)
     clear d1
     generalize ps.getD i 0 = x at *
     obtain ⟨row, hrow⟩ : ∃ r, WW i (p : Int) = r := ⟨_, rfl⟩
     rw [hrow] at hws hwl HO
     have HWS := Lib.hid hws
     clear hws hrow
     by_cases hx : x = (p : Int)
     ·by_cases hil : i < l.length
      ·have j2 : (i : Int) < (l.length : Int) := by omega
       obtain ⟨b2, o2, rfl, d2⟩ := HB.out i hil
       have y2 := bkeep (HBW.out.trans (HB2.out.mono HBW.out.size)) d2
       clear d2
       cases hb : l.getD i false
       ·rw [hb] at y2 HWS
        have E : Hid (WW (i + 1) (p : Int) = row) := Lib.hid (by rw [HWS.out, if_neg (by simp)])
        go_wp2_with fail
        go_roundg (n - (i + 1))
        case measure => omega
        case rel => exact ⟨i + 1, by omega, by simp, HB2, Lib.hid (by rw [E.out]; exact HO.out)⟩
       ·rw [hb] at y2 HWS
        have E : Hid (WW (i + 1) (p : Int) = row ++ [(i : Int)]) := Lib.hid (by rw [HWS.out, if_pos ⟨hx, rfl⟩])
        go_wp2_with (at_builtin; refine wpList_append_lies (wr.alloc (.cells #[.int .i64 i] 3)) rfl (.tmp 39) (.tmp 41) 22 rfl wr1.heap.size 3 i0 (.int .i64 0) 1 8 Try.underlying22 hi0 hz0 hz1 hz2 rfl (by decide) u7 row.length _ rfl (HO.out.alloc _) ⟨wr.heap.size, 0, none⟩ 1 1 [.int .i64 i] rfl rfl (World.news_of_block (heap_alloc_new _ _)) (by simp [Value.oneCell']) (by omega) (by unfold maxLen; omega) (by omega) (by have := HB2.out.size; simp; omega) (wr.heap.size + 1) (by simp) ?_; intro g3 cap3 w3 hown3 hgr3 hor3 hlt3; have HO3 := Lib.hid hown3; have HB3 := Lib.hid (Below.own HB2.out HO.out hgr3); clear hown3 hgr3 hor3)
        go_roundg (n - (i + 1))
        case measure => omega
        case rel => exact ⟨i + 1, by omega, by simp, HB3, Lib.hid (by rw [E.out, List.length_append, List.map_append]; exact HO3.out)⟩
      ·have j2 : ¬ (i : Int) < (l.length : Int) := by omega
       have E : Hid (WW (i + 1) (p : Int) = row) := Lib.hid (by rw [HWS.out, if_neg (by rw [List.getD_eq_getElem?_getD, List.getElem?_eq_none (by omega)]; simp)])
       go_wp2_with fail
       go_roundg (n - (i + 1))
       case measure => omega
       case rel => exact ⟨i + 1, by omega, by simp, HB2, Lib.hid (by rw [E.out]; exact HO.out)⟩
     ·have E : Hid (WW (i + 1) (p : Int) = row) := Lib.hid (by rw [HWS.out, if_neg (fun q => hx q.1)])
      go_wp2_with fail
      go_roundg (n - (i + 1))
      case measure => omega
      case rel => exact ⟨i + 1, by omega, by simp, HB2, Lib.hid (by rw [E.out]; exact HO.out)⟩
    ·obtain rfl : i = n := by omega
     obtain ⟨row, hrow⟩ : ∃ r, WW i (p : Int) = r := ⟨_, rfl⟩
     have hrs := RS.out p
     have hwl := WL.out i (p : Int)
     rw [hrow] at HO hrs hwl
     have HRS := Lib.hid hrs
     obtain ⟨la, lc, rfl⟩ := own_var HO.out
     obtain ⟨rl, hrl⟩ : ∃ z, (RR p).length = z := ⟨_, rfl⟩
     have hrlp : rl ≤ p := by rw [← hrl]; exact RL.out p
     have HRL := Lib.hid hrl
     rw [hrl] at HM ⊢
     clear hrow hrs hrl
     by_cases hz : row.length = 0
     ·have E := Lib.hid (show RR (p + 1) = RR p by rw [HRS.out, if_pos hz])
      have hz2 : ¬ (0 : Int) < (row.length : Int) := by omega
      have HZ := Lib.hid hz
      clear hz
      go_wp2_with fail
      go_roundg (i - (p + 1))
      case measure => omega
      case rel => exact ⟨p + 1, vals, by omega, by simp, Lib.hid (HBW.out.trans (HB2.out.mono HBW.out.size)), Lib.hid (by rw [E.out]; exact HM.out.more HB2.out)⟩
     ·have E := Lib.hid (show RR (p + 1) = RR p ++ [row] by rw [HRS.out, if_neg hz])
      have hz2 : (0 : Int) < (row.length : Int) := by omega
      have hm2 := (HM.out.more HB2.out).out
      rw [HRL.out] at hm2
      have HM2 := Lib.hid hm2
      clear hm2
      go_wp2_with (at_builtin; refine wpList_append_lies (wr.alloc (.cells #[.slice la row.length lc] 22)) rfl (.tmp 46) (.tmp 48) 49 rfl w.heap.size 22 j0 (.slice none 0 0) 1 24 Try.underlying49 hj0 hw0 hw1 hw2 rfl (by decide) (.slice oa rl oc) rl vals rfl (HM2.out.alloc _) ⟨wr.heap.size, 0, none⟩ 1 1 [.slice la row.length lc] rfl rfl (World.news_of_block (heap_alloc_new _ _)) (by simp [Value.oneCell']) (by omega) (by unfold maxLen; omega) (by omega) (by have := HB2.out.size; have := HBW.out.size; simp; omega) (wr.heap.size + 1) (by simp) ?_; intro g3 cap3 w3 hown3 hgr3 hor3 hlt3; have HM3 := Lib.hid (HM.out.pushNew HRL.out HBW.out.size HB2.out HO.out hgr3 hor3 hown3); have HB3 := Lib.hid (Below.own (HBW.out.trans (HB2.out.mono HBW.out.size)) HM2.out hgr3); clear hown3 hgr3 hor3)
      go_roundg (i - (p + 1))
      case measure => omega
      case rel => exact ⟨p + 1, _, by omega, by simp, HB3, Lib.hid (by rw [E.out]; exact HM3.out)⟩
  ·obtain rfl : p = n := by omega
   go_wp2_with fail
   go_ret
   exact ⟨_, rfl, HM.out.at, HBW.out⟩
noncomputable def rgroupsI (g : Gr) : List (List Int) := refI (partsI g) (fun i => (List.replicate (nodesN g) true).getD i false)
theorem set_true (n k : Nat) : (tab n (fun i => decide (i < k))).set k true = tab n (fun i => decide (i < k + 1)) := by
 rw [tab_upd]
 refine tab_same fun x hx => ?_
 by_cases e : x = k
 ·rw [e, upd_same]; simp
 ·rw [upd_other _ _ _ _ e]
  have : (x < k) ↔ (x < k + 1) := by omega
  simp [this]
set_option maxRecDepth 100000 in
set_option maxHeartbeats 4000000 in
theorem rgroupsF_ok (v : Value) (g : Gr) (w : World) (h : GraphAt w v g) (hn : nodesN g ≤ 100000) : Calls Try.prog 38 #[v] w (RowsBack w (rgroupsI g)) := by
 obtain ⟨sa, aa, ta, sc, ac, tc, rfl, -⟩ := h.var
 have hb := balloc w (.cells #[.slice sa g.S.length sc, .slice aa g.A.length ac, .slice ta g.T.length tc] 30)
 have PP := Lib.hid (rparts_ok _ g _ (h.below hb) hn)
 have HB := Lib.hid hb
 have X0 := Lib.hid (heap_alloc_new w (.cells #[.slice sa g.S.length sc, .slice aa g.A.length ac, .slice ta g.T.length tc] 30))
 have PL := Lib.hid (partsI_len g)
 clear h hb
 unfold rgroupsI
 obtain ⟨n, hnn⟩ : ∃ n, nodesN g = n := ⟨_, rfl⟩
 generalize partsI g = pl at *
 rw [hnn] at hn PL ⊢
 clear hnn
 go_enter Try.func38, Try.ntmps38
 go_wp2_with (first
  | (go_at_call 59; refine PP.out.mono ?_; rintro e w1 ⟨rv, rfl, hI, hb1⟩; have HI := Lib.hid hI; obtain ⟨ra, rc, rfl, -⟩ := hI; rw [PL.out]; have HB1 := Lib.hid (HB.out.trans (hb1.mono HB.out.size)); clear hb1)
  | (at_make; refine wpList_make_one _ rfl (.tmp 9) (.tmp 9) 39 rfl 4 (.bool false) rfl 1 Try.underlying39 Try.info4 .i64 .i64 (n : Nat) (n : Nat) n rfl rfl rfl rfl (by omega) (by unfold maxLen; omega) ?_; intro w3 hh3 hb3 hlt3; have HB3 := Lib.hid hb3; have HH3 := Lib.hid hh3; clear hb3 hh3))
 have HH4 : Hid (w3.heap[w1.heap.size]? = some (.cells (bools (tab n (fun i => decide (i < 0)))) 4 (0, 0))) := Lib.hid (by
  rw [HH3.out, ← bools_replicate]
  have : tab n (fun i => decide (i < 0)) = List.replicate n false := by unfold tab; simp [List.map_const']
  rw [this])
 have HI2 := Lib.hid (fun (w' : World) (hw : Below w1.heap.size w1 w') => HI.out.below hw)
 go_loopg [5] n (fun fu c wr => ∃ k : Nat, k + fu = n ∧ c = .int .i64 k ∧ Below w1.heap.size w1 wr ∧ wr.heap[w1.heap.size]? = some (.cells (bools (tab n (fun i => decide (i < k)))) 4 (0, 0)))
 case atStart => exact ⟨0, by omega, rfl, HB3.out, HH4.out⟩
 case round =>
  clear HH3 HH4 HB3
  obtain ⟨k, hk, rfl, hb, hh⟩ := hrel
  by_cases hlt : k < n
  ·have z : (k : Int) < (n : Int) := by omega
   have c0 := cell_of_block hh k _ (bools_get _ k (by rw [tab_len]; exact hlt))
   have f0 := free_of_block hh k
   have HX : Hid ((wr.setCell ⟨w1.heap.size, k, none⟩ (.bool true)).heap[w1.heap.size]? = some (.cells (bools (tab n (fun i => decide (i < k + 1)))) 4 (0, 0))) := Lib.hid (by
    rw [heap_setCell_block hh, bools_set, set_true n k])
   have HY := Lib.hid (hb.setCell (p := ⟨w1.heap.size, k, none⟩) (Nat.le_refl _) (.bool true))
   clear hh hb
   generalize (tab n _).getD k false = vb at *
   go_wp2_with fail
   go_roundg (n - (k + 1))
   case measure => omega
   case rel => exact ⟨k + 1, by omega, by simp, HY.out, HX.out⟩
  ·obtain rfl : k = n := by omega
   have e : tab k (fun i => decide (i < k)) = List.replicate k true := by
    have : tab k (fun i => decide (i < k)) = tab k (fun _ => true) := tab_same fun x hx => decide_eq_true hx
    rw [this]; unfold tab; simp [List.map_const']
   rw [e] at hh
   have HR := Lib.hid (rgroups_ok _ _ pl (List.replicate k true) wr (HI2.out wr hb) (boolsAt_block (n := k) hh (by simp) k) (by rw [PL.out]; omega) (by simp; omega))
   have HBX := Lib.hid (HB1.out.trans (hb.mono HB1.out.size))
   rw [PL.out] at HR
   clear hh hb e
   go_wp2_with (go_at_call 60; refine HR.out.mono ?_; rintro e w4 ⟨rv2, rfl, hr, hb4⟩; have HR4 := Lib.hid hr; have HB4 := Lib.hid (HBX.out.trans (hb4.mono HBX.out.size)); clear hr hb4)
   go_ret
   exact ⟨_, rfl, HR4.out, HB4.out⟩
end Go.Proofs.Ytlhpjfnfemebdaa
namespace Go.Proofs.Ytlhpjfnfemebdaa
section
variable {α β : Type} [DecidableEq α] [DecidableEq β]
theorem filter_same {γ : Type} {p q : γ → Bool} {l : List γ} (h : ∀ x ∈ l, p x = q x) : l.filter p = l.filter q := List.filter_congr h
theorem decide_same {p q : Prop} [Decidable p] [Decidable q] (h : p ↔ q) : decide p = decide q := by
 by_cases hp : p
 ·rw [decide_eq_true hp, decide_eq_true (h.1 hp)]
 ·rw [decide_eq_false hp, decide_eq_false (fun q => hp (h.2 q))]
theorem isF_same {q : Nat → α} {q' : Nat → β} {inn inn' : Nat → Bool} {n : Nat} (h : ∀ i j, i < n → j < n → (q i = q j ↔ q' i = q' j)) (hi : ∀ i, i < n → inn i = inn' i) {i : Nat} (hin : i < n) : isF q inn i = isF q' inn' i := by
 have e : isF q inn i = true ↔ isF q' inn' i = true := by
  rw [isF_iff, isF_iff, hi i hin]
  refine and_congr_right fun _ => ?_
  constructor
  ·intro hh k hk hk2 e
   exact hh k hk (by rw [hi k (by omega)]; exact hk2) ((h k i (by omega) hin).2 e)
  ·intro hh k hk hk2 e
   exact hh k hk (by rw [← hi k (by omega)]; exact hk2) ((h k i (by omega) hin).1 e)
 cases h1 : isF q inn i <;> cases h2 : isF q' inn' i <;> simp [h1, h2] at e ⊢
theorem grp_same {q : Nat → α} {q' : Nat → β} {inn inn' : Nat → Bool} {n : Nat} (h : ∀ i j, i < n → j < n → (q i = q j ↔ q' i = q' j)) (hi : ∀ i, i < n → inn i = inn' i) : grp q inn n = grp q' inn' n := by
 have e1 : firsts q inn n = firsts q' inn' n := filter_same fun i hin => isF_same h hi (List.mem_range.1 hin)
 unfold grp
 rw [e1]
 refine List.map_congr_left fun j hj => ?_
 have hj := (mem_firsts.1 hj).1
 refine filter_same fun k hk => ?_
 have hk := List.mem_range.1 hk
 rw [hi k hk, decide_same (h k j hk hj)]
end
theorem rows_eq {g : Gr} {inn inn' : Nat → Bool} (hi : ∀ i, i < nodesN g → inn i = inn' i) (hm : ∀ i j, i < j → j < nodesN g → isF (partN g) inn i = true → isF (partN g) inn j = true → partN g i < partN g j) :
  grpI (partsI g) inn = refI (partsI g) inn' := by
 unfold grpI refI refR
 rw [partsI_len]
 congr 1
 have e1 : grp (fun k => (partsI g).getD k 0) inn (nodesN g) = grp (partN g) inn (nodesN g) := grp_same (fun i j hi hj => by
  show (partsI g).getD i 0 = (partsI g).getD j 0 ↔ _
  rw [partsI_get hi, partsI_get hj]; omega) (fun _ _ => rfl)
 rw [e1, grp_ref (fun k hk _ => partN_lt hk) hm]
 congr 1
 refine List.map_congr_left fun p _ => filter_same fun k hk => ?_
 have hk := List.mem_range.1 hk
 rw [hi k hk]
 congr 1
 refine decide_same ?_
 show _ ↔ (partsI g).getD k 0 = _
 rw [partsI_get hk]
 exact ⟨fun h => by have h' : partN g k = p := h; rw [h'], fun h => show partN g k = p by omega⟩
theorem partN_first {g : Gr} {i k : Nat} (hi : ∀ j, j < i → partN g j ≠ partN g i) (hk : k < i) : partN g k < partN g i := by
 refine cnV_first (fun j hj e => hi j hj ?_) hk
 rw [partN_eq, ← scF_iff]
 exact e.symm
theorem groups_eq (g : Gr) : groupsI g = rgroupsI g := by
 refine rows_eq (fun i hi => ?_) (fun i j hij hj _ hf => ?_)
 ·simp [hi]
 ·exact partN_first (fun k hk => (isF_iff.1 hf).2 k hk rfl) hij
end Go.Proofs.Ytlhpjfnfemebdaa
