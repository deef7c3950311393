/-
  ref17.Parts: the walk. ref17.Parts: the walk.
-/
import Derived.Test.YtnlaonppgebpoaaGroupFns
import Derived.Test.YtnlaonppgebpoaaPartsMem
import Derived.Test.YtnlaonppgebpoaaRReach
import Derived.Test.YtnlaonppgebpoaaSccParts
namespace Go.Proofs.Ytnlaonppgebpoaa
open Go.RowKit

theorem Try.info33 : (Try.prog.info? 33).map (fun i => (i.zero, i.size, i.bytes)) = some (some (.slice none 0 0), 1, 24) := by kernel_rfl
/-- the rows of what is reached -/
structure RbM (w wr : World) (gc : Array Value) (g : Gr) (n : Nat) (ov : Value) (k : Nat) (vals : List Value) : Prop where
  below : Below w.heap.size w wr
  vg : wr.heap[w.heap.size]? = some (.cells gc 26 (0, 0))
  len : vals.length = k
  out : wr.ownsRow (w.heap.size + 1) 33 1 ov k vals
  inn : ∀ j, j < k → ∃ B, vals.getD j undef = .slice (some ⟨B, 0, none⟩) n n ∧ w.heap.size < B ∧ wr.heap[B]? = some (.cells (bools (reachL g [(j : Int)])) 4 (0, 0)) ∧ ov.ownBlock ≠ some B
section
variable {w wr w' : World} {gc : Array Value} {g : Gr} {n k : Nat} {ov : Value} {vals : List Value}
theorem RbM.more (h : RbM w wr gc g n ov k vals) (hb : Below wr.heap.size wr w') : RbM w w' gc g n ov k vals :=
  ⟨h.below.trans (hb.mono h.below.size), bheap hb h.vg, h.len, ownsRow_frm (F := fun _ => False) h.out (bfrm hb _) (fun _ _ => id), fun j hj => by
    obtain ⟨B, e, h1, h2, h3⟩ := h.inn j hj
    exact ⟨B, e, h1, bheap hb h2, h3⟩⟩
theorem RbM.var (h : RbM w wr gc g n ov k vals) : ∃ a cap, ov = .slice a k cap := by
  rcases h.out.2 with ⟨rfl, e⟩ | ⟨g, cap, cur, rfl, -⟩
  · exact ⟨none, 0, by rw [e]⟩
  · exact ⟨_, cap, rfl⟩
theorem RbM.push (h : RbM w wr gc g n ov k vals) {w1 : World} (hb : Below wr.heap.size wr w1) {B : Nat} (hB : wr.heap.size ≤ B) (hBr : w1.heap[B]? = some (.cells (bools (reachL g [(k : Int)])) 4 (0, 0))) {o : Obj} {g3 cap : Nat}
    (hg : (w1.alloc o).grownBy w' ov.ownBlock) (hor : ov.ownBlock = some g3 ∨ g3 = w1.heap.size + 1) (hown : w'.ownsRow (w.heap.size + 1) 33 1 (.slice (some ⟨g3, 0, none⟩) (k + 1) cap) (k + 1) (vals ++ [.slice (some ⟨B, 0, none⟩) n n])) :
    RbM w w' gc g n (.slice (some ⟨g3, 0, none⟩) (k + 1) cap) (k + 1) (vals ++ [.slice (some ⟨B, 0, none⟩) n n]) := by
  have h1 := h.more (hb.trans ((balloc w1 o).mono hb.size))
  have hsz := h.below.size
  have hsz1 := hb.size
  have hlen := h.len
  have hBlt := (Array.getElem?_eq_some_iff.1 hBr).1
  have hvl := (Array.getElem?_eq_some_iff.1 h.vg).1
  have holt : ∀ q, ov.ownBlock = some q → q < wr.heap.size := fun q hq => (h.out.lt q hq).2
  have hBo : ov.ownBlock ≠ some B := fun e => by have := holt B e; omega
  have hkeep : ∀ (q : Nat) (ob : Obj), ov.ownBlock ≠ some q → (w1.alloc o).heap[q]? = some ob → w'.heap[q]? = some ob := fun q ob hq hh => by
    rw [hg.block q (Array.getElem?_eq_some_iff.1 hh).1 (fun e => hq e.symm)]; exact hh
  refine ⟨Below.own (v := ov) (h.below.trans (hb.mono hsz)) (m := k) (xs := vals) (e := 33) (size := 1) ?_ hg, hkeep _ _ (fun e => by have := (h.out.lt _ e).1; omega) h1.vg, by simp [hlen], hown, fun j hj => ?_⟩
  · have := ownsRow_frm (F := fun _ => False) h.out (bfrm hb _) (fun _ _ => id)
    obtain ⟨l, r⟩ := this
    refine ⟨l, ?_⟩
    rcases r with r | ⟨g, cap, cur, e, hbg, r⟩
    · exact .inl r
    · exact .inr ⟨g, cap, cur, e, by omega, r⟩
  · by_cases e : j < k
    · obtain ⟨B', e1, e2, e3, e4⟩ := h1.inn j e
      refine ⟨B', by rw [getD_snoc _ _ _ _ (by omega), if_pos (by omega)]; exact e1, e2, hkeep _ _ e4 e3, ?_⟩
      intro e5
      have e6 : g3 = B' := by simpa [Value.ownBlock] using e5
      subst e6
      rcases hor with e7 | e7
      · exact e4 e7
      · obtain ⟨B2, e8, -, e9, -⟩ := h.inn j e
        rw [e1] at e8
        have : g3 = B2 := by simpa using e8
        subst this
        have := (Array.getElem?_eq_some_iff.1 e9).1
        omega
    · obtain rfl : j = k := by omega
      refine ⟨B, by rw [getD_snoc _ _ _ _ (by omega), if_neg (by omega)], by omega, hkeep _ _ hBo (bheap (balloc _ _) hBr), ?_⟩
      intro e5
      have e6 : g3 = B := by simpa [Value.ownBlock] using e5
      rcases hor with e7 | e7
      · rw [e6] at e7; exact hBo e7
      · omega
theorem RbM.cell (h : RbM w wr gc g n ov k vals) (hR : Rt g) (hgn : nodesN g = n) {i j : Nat} (hi : i < k) (hj : j < n) :
    ∃ ob oc B, ov = .slice (some ⟨ob, 0, none⟩) k oc ∧ wr.cell? ⟨ob, i, none⟩ = some (.slice (some ⟨B, 0, none⟩) n n) ∧ wr.cell? ⟨B, j, none⟩ = some (.bool ((reachL g [(i : Int)]).getD j false)) := by
  obtain ⟨ob, e1, ⟨oc, e3⟩, e2⟩ := ownsRow_cell h.out hi
  obtain ⟨B, e4, -, e5, -⟩ := h.inn i hi
  refine ⟨ob, oc, B, e3, by rw [e2, e4], cell_of_block e5 j _ (bools_get _ j (by rw [reachL_len hR, hgn]; exact hj))⟩
end
/-- the first one below q that is alike -/
def ptv (E : Nat → Nat → Bool) (i q : Nat) : Int := match (List.range q).find? (fun k => E i k) with | some j => ((cnV E j : Nat) : Int) | none => -1
theorem ptv_skip {E : Nat → Nat → Bool} {i q : Nat} (h : 0 ≤ ptv E i q ∨ E i q = false) : ptv E i (q + 1) = ptv E i q := by
  unfold ptv at h ⊢
  rw [List.range_succ, List.find?_append]
  rcases e : (List.range q).find? (fun k => E i k) with _ | j
  · rw [e] at h
    rcases h with h | h
    · simp at h
    · simp [h]
  · rfl
theorem ptv_hit {E : Nat → Nat → Bool} {i q : Nat} (h : ptv E i q < 0) (hE : E i q = true) : ptv E i (q + 1) = ((cnV E q : Nat) : Int) := by
  unfold ptv at h ⊢
  rw [List.range_succ, List.find?_append]
  rcases e : (List.range q).find? (fun k => E i k) with _ | j
  · simp [hE]
  · rw [e] at h; simp at h; omega
theorem ptv_old {E : Nat → Nat → Bool} {i : Nat} (h : 0 ≤ ptv E i i) : ((cnS E (i + 1)).1.map (fun x : Nat => (x : Int))) = (cnS E i).1.map (fun x : Nat => (x : Int)) ++ [ptv E i i] ∧ (cnS E (i + 1)).2 = (cnS E i).2 := by
  unfold ptv at h ⊢
  rcases e : (List.range i).find? (fun k => E i k) with _ | j
  · rw [e] at h; simp at h
  · refine ⟨?_, cnS_next_some e⟩
    show (cnStep E i (cnS E i)).1.map _ = _
    unfold cnStep
    rw [e]
    simp only [List.map_append, List.map_cons, List.map_nil]
    rw [cnS_getD E i j (List.mem_range.1 (List.mem_of_find?_eq_some e))]
theorem ptv_new {E : Nat → Nat → Bool} {i : Nat} (h : ptv E i i < 0) : ((cnS E (i + 1)).1.map (fun x : Nat => (x : Int))) = (cnS E i).1.map (fun x : Nat => (x : Int)) ++ [(((cnS E i).2 : Nat) : Int)] ∧ (cnS E (i + 1)).2 = (cnS E i).2 + 1 := by
  unfold ptv at h
  rcases e : (List.range i).find? (fun k => E i k) with _ | j
  · refine ⟨?_, cnS_next_none e⟩
    show (cnStep E i (cnS E i)).1.map _ = _
    unfold cnStep
    rw [e]
    simp
  · rw [e] at h; simp at h; omega
noncomputable def RE (g : Gr) (i k : Nat) : Bool := (reachL g [(i : Int)]).getD k false && (reachL g [(k : Int)]).getD i false
theorem RE_parts (g : Gr) : (cnS (RE g) (nodesN g)).1 = partsL g := by
  refine partsL_congr fun i k hi hk => ?_
  have hR : Rt g := by
    refine (rightB_iff g).1 ?_
    cases e : rightB g
    · rw [nodesN_not e] at hi; omega
    · rfl
  unfold RE
  rw [Bool.and_eq_true, reach_pth hR hi (by omega), reach_pth hR (by omega) hi]
  exact Iff.rfl
end Go.Proofs.Ytnlaonppgebpoaa

namespace Go.Proofs.Ytnlaonppgebpoaa
open Go.RowKit

set_option maxRecDepth 100000 in
set_option maxHeartbeats 8000000 in
theorem rparts_ok (v : Value) (g : Gr) (w : World) (h : GraphAt w v g) (hn : nodesN g ≤ 100000) :
    Calls Try.prog 44 #[v] w fun e w' => ∃ rv, e = .returned rv ∧ IntsAt w' rv (partsI g) ∧ Below w.heap.size w w' := by
  obtain ⟨i0, hi0, hz0, hz1, hz2⟩ := info_parts (Try.info3)
  obtain ⟨j0, hj0, hw0, hw1, hw2⟩ := info_parts Try.info33
  obtain ⟨sa, aa, ta, sc, ac, tc, rfl, -⟩ := h.var
  have hb := balloc w (.cells #[.slice sa g.S.length sc, .slice aa g.A.length ac, .slice ta g.T.length tc] 26)
  have NN := Lib.hid (rnodes_ok _ g _ (h.below hb))
  have HB := Lib.hid hb
  have X0 := Lib.hid (heap_alloc_new w (.cells #[.slice sa g.S.length sc, .slice aa g.A.length ac, .slice ta g.T.length tc] 26))
  have hRt : 0 < nodesN g → Rt g := fun h0 => by
    refine (rightB_iff g).1 ?_
    cases e : rightB g
    · rw [nodesN_not e] at h0; omega
    · rfl
  have HR := Lib.hid hRt
  have RCH := Lib.hid (fun (hR : Rt g) (w' : World) (hw : Below w.heap.size w w') (u : Value) (fr : List Int) (hu : IntsAt w' u fr) (hl : fr.length ≤ 1000000) => rreach_new _ u g fr w' (h.below hw) hu hR hl)
  have RP := Lib.hid (RE_parts g)
  clear h hb hRt
  obtain ⟨n, hnn⟩ : ∃ n, nodesN g = n := ⟨_, rfl⟩
  rw [hnn] at NN hn HR RP
  have HNN := Lib.hid hnn
  clear hnn
  go_enter Try.func44, Try.ntmps44
  go_wp2_with (first
    | (go_at_call 31; refine NN.out.mono ?_; rintro e w1 ⟨rfl, hb1⟩; have hb2 := HB.out.trans (hb1.mono HB.out.size); have R0 := Lib.hid (show RbM w w1 #[.slice sa g.S.length sc, .slice aa g.A.length ac, .slice ta g.T.length tc] g n (.slice none 0 0) 0 [] from ⟨hb2, bheap hb1 X0.out, rfl, World.ownsRow_nil _ _ _ _, fun j hj => by omega⟩); have d0 := bkeep hb1 (cell_of_block X0.out 0 _ rfl); have d1 := bkeep hb1 (cell_of_block X0.out 1 _ rfl); have d2 := bkeep hb1 (cell_of_block X0.out 2 _ rfl); clear hb1 hb2))
  clear d0 d1 d2 NN HB X0
  go_loopg [4, 5] n (fun fu ov c wr => ∃ (k : Nat) (vals : List Value), k + fu = n ∧ c = .int .i64 k ∧ Hid (RbM w wr #[.slice sa g.S.length sc, .slice aa g.A.length ac, .slice ta g.T.length tc] g n ov k vals))
  case atStart => exact ⟨0, [], by omega, rfl, R0⟩
  case round =>
    clear R0
    obtain ⟨k, vals, hk, rfl, HM⟩ := hrel
    obtain ⟨oa, oc, rfl⟩ := HM.out.var
    by_cases hlt : k < n
    · have i1 : (k : Int) < (n : Int) := by omega
      have hR := HR.out (by omega)
      have d0 := cell_of_block HM.out.vg 0 _ rfl
      have d1 := cell_of_block HM.out.vg 1 _ rfl
      have d2 := cell_of_block HM.out.vg 2 _ rfl
      have HI : Hid (IntsAt (wr.alloc (.cells #[.int .i64 k] 3)) (.slice (some ⟨wr.heap.size, 0, none⟩) 1 1) [(k : Int)]) := Lib.hid (intsAt_block (xs := [(k : Int)]) (heap_alloc_new wr _) rfl 1)
      have HC := Lib.hid (RCH.out hR (wr.alloc (.cells #[.int .i64 k] 3)) (HM.out.below.trans ((balloc wr _).mono HM.out.below.size)) _ _ HI.out (by simp))
      have HL : Hid ((reachL g [(k : Int)]).length = n) := Lib.hid (by rw [reachL_len hR, HNN.out])
      have HR2 := Lib.hid hR
      clear hR
      go_wp2_with (first
        | (go_at_call 40; refine HC.out.mono ?_; rintro e w1 ⟨B, rfl, hB, hBl, hb1⟩; rw [HL.out]; have HB := Lib.hid hB; have HBL := Lib.hid hBl; have HB1 := Lib.hid ((balloc wr (.cells #[.int .i64 k] 3)).trans (hb1.mono (balloc wr _).size)); have hs1 := HB1.out.size; clear hB hBl hb1)
        | (at_builtin; refine wpList_append_lies (w1.alloc (.cells #[.slice (some ⟨B, 0, none⟩) n n] 33)) rfl (.tmp 18) (.tmp 23) 53 rfl (w.heap.size + 1) 33 j0 (.slice none 0 0) 1 24 Try.underlying53 hj0 hw0 hw1 hw2 rfl (by decide) (.slice oa k oc) k vals rfl (((HM.out.more HB1.out).out).alloc _) ⟨w1.heap.size, 0, none⟩ 1 1 [.slice (some ⟨B, 0, none⟩) n n] rfl rfl (World.news_of_block (heap_alloc_new _ _)) (by simp [Value.oneCell']) (by omega) (by unfold maxLen; omega) (by omega) (by have := (Array.getElem?_eq_some_iff.1 HM.out.vg).1; simp; omega) (w1.heap.size + 1) (by simp) ?_; intro g3 cap3 w3 hown3 hgr3 hor3 hlt3; have HM3 := Lib.hid (HM.out.push HB1.out (by have := HBL.out; simp at this; omega) HB.out hgr3 hor3 hown3); clear hown3 hgr3 hor3))
      go_roundg (n - (k + 1))
      case measure => omega
      case rel => exact ⟨k + 1, _, by omega, by simp, HM3⟩
    · obtain rfl : k = n := by omega
      obtain ⟨W2, rfl⟩ : ∃ z : World, z = wr := ⟨_, rfl⟩
      go_wp2_with fail
      go_loopg [6, 7, 8] k (fun fu tv nx c wr2 => ∃ i : Nat, i + fu = k ∧ c = .int .i64 i ∧ nx = .int .i64 (((cnS (RE g) i).2 : Nat) : Int) ∧ Hid (Below W2.heap.size W2 wr2 ∧ wr2.ownsRow W2.heap.size 3 1 tv i (((cnS (RE g) i).1.map (fun x : Nat => (x : Int))).map (Value.int .i64))))
      case atStart => exact ⟨0, by omega, rfl, rfl, Lib.hid ⟨Below.refl _ _, World.ownsRow_nil _ _ _ _⟩⟩
      case round =>
        obtain ⟨i, hik, rfl, rfl, HS⟩ := hrel
        by_cases hlt2 : i < k
        · have hR := HR.out (by omega)
          have hM2 := HM.out.more HS.out.1
          have HM2 := Lib.hid hM2
          have HR2 := Lib.hid hR
          obtain ⟨ob, oc', B0, e0, -, -⟩ := hM2.cell hR HNN.out hlt2 hlt2
          simp only [Value.slice.injEq, true_and] at e0
          obtain ⟨rfl, rfl⟩ := e0
          clear hM2 hR
          have j1 : (i : Int) < (k : Int) := by omega
          obtain ⟨wr3, rfl⟩ : ∃ z : World, z = wr := ⟨_, rfl⟩
          go_wp2_with fail
          go_loopg [9, 10] i (fun fu p c wr4 => ∃ q : Nat, q + fu = i ∧ c = .int .i64 q ∧ p = .int .i64 (ptv (RE g) i q) ∧ wr3 = wr4)
          case atStart => exact ⟨0, by omega, rfl, rfl, rfl⟩
          case round =>
            obtain ⟨q, hqi, rfl, rfl, rfl⟩ := hrel
            by_cases hlt3 : q < i
            · have j2 : (q : Int) < (i : Int) := by omega
              have j3 : (q : Int) < (k : Int) := by omega
              obtain ⟨ob1, oc1, B1, e1, c1, c2⟩ := HM2.out.cell HR2.out HNN.out hlt2 (j := q) (by omega)
              simp only [Value.slice.injEq, Option.some.injEq, Addr.mk.injEq, and_true, true_and] at e1
              obtain ⟨rfl, -⟩ := e1
              obtain ⟨ob1, oc1, B2, e1, c3, c4⟩ := HM2.out.cell HR2.out HNN.out (i := q) (j := i) (by omega) hlt2
              simp only [Value.slice.injEq, Option.some.injEq, Addr.mk.injEq, and_true, true_and] at e1
              obtain ⟨rfl, -⟩ := e1
              have hS1 := Lib.hid (ptv_skip (E := RE g) (i := i) (q := q))
              have hS2 := Lib.hid (ptv_hit (E := RE g) (i := i) (q := q))
              have hRE : Hid (RE g i q = ((reachL g [(i : Int)]).getD q false && (reachL g [(q : Int)]).getD i false)) := Lib.hid rfl
              obtain ⟨tb, -, ⟨tc, rfl⟩, c5⟩ := ownsRow_cell HS.out.2 hlt3
              have hcq : ((List.map (Value.int .i64) (List.map (fun x : Nat => (x : Int)) (cnS (RE g) i).1)).getD q undef) = .int .i64 ((cnV (RE g) q : Nat) : Int) := by
                have e := cnS_getD (RE g) i q hlt3
                have hl := cnS_len (RE g) i
                rw [List.getD_eq_getElem?_getD, List.getElem?_eq_getElem (by omega)] at e
                simp only [Option.getD_some] at e
                simp [hl, hlt3, e]
              rw [hcq] at c5
              clear hcq
              generalize (reachL g [(i : Int)]).getD q false = r1 at *
              generalize (reachL g [(q : Int)]).getD i false = r2 at *
              obtain ⟨p, hp⟩ : ∃ p, ptv (RE g) i q = p := ⟨_, rfl⟩
              rw [hp] at hS1 hS2
              have HPP := Lib.hid hp
              rw [hp]
              clear hp
              by_cases hneg : p < 0
              · cases r1
                · have e := hS1.out (.inr (by rw [hRE.out]; rfl))
                  have E := Lib.hid e
                  clear hS1 hS2 e
                  go_wp2_with fail
                  go_roundg (i - (q + 1))
                  case measure => omega
                  case rel => exact ⟨q + 1, by omega, by simp, by rw [E.out], rfl⟩
                · cases r2
                  · have e := hS1.out (.inr (by rw [hRE.out]; rfl))
                    have E := Lib.hid e
                    clear hS1 hS2 e
                    go_wp2_with fail
                    go_roundg (i - (q + 1))
                    case measure => omega
                    case rel => exact ⟨q + 1, by omega, by simp, by rw [E.out], rfl⟩
                  · have e := hS2.out hneg (by rw [hRE.out]; rfl)
                    have E := Lib.hid e
                    clear hS1 hS2 e
                    go_wp2_with fail
                    go_roundg (i - (q + 1))
                    case measure => omega
                    case rel => exact ⟨q + 1, by omega, by simp, by rw [E.out], rfl⟩
              · have e := hS1.out (.inl (by omega))
                have E := Lib.hid e
                clear hS1 hS2 e
                go_wp2_with fail
                go_roundg (i - (q + 1))
                case measure => omega
                case rel => exact ⟨q + 1, by omega, by simp, by rw [E.out], rfl⟩
            · obtain rfl : q = i := by omega
              obtain ⟨p, hp⟩ : ∃ p, ptv (RE g) q q = p := ⟨_, rfl⟩
              obtain ⟨nz, hnz⟩ : ∃ z, (cnS (RE g) q).2 = z := ⟨_, rfl⟩
              have hnl := cnS_next_le (RE g) q
              rw [hnz] at hnl ⊢
              rw [hp]
              by_cases hneg : p < 0
              · have HY := Lib.hid (ptv_new (E := RE g) (i := q) (by rw [hp]; exact hneg))
                rw [hnz] at HY
                have hw : IntKind.i64.wrap ((nz : Int) + 1) = (nz : Int) + 1 := IntWalk.i64_in _ (by omega)
                clear hp hnz
                go_wp2_with (at_builtin; refine wpList_append_lies (wr3.alloc (.cells #[.int .i64 nz] 3)) rfl (.tmp 64) (.tmp 66) 24 rfl W2.heap.size 3 i0 (.int .i64 0) 1 8 Try.underlying24 hi0 hz0 hz1 hz2 rfl (by decide) u6 q _ rfl (HS.out.2.alloc _) ⟨wr3.heap.size, 0, none⟩ 1 1 [.int .i64 nz] rfl rfl (World.news_of_block (heap_alloc_new _ _)) (by simp [Value.oneCell']) (by omega) (by unfold maxLen; omega) (by omega) (by have := HS.out.1.size; simp; omega) (wr3.heap.size + 1) (by simp) ?_; intro g3 cap3 w3 hown3 hgr3 hor3 hlt3; have HO3 := Lib.hid hown3; have HB3 := Lib.hid (Below.own HS.out.1 HS.out.2 hgr3); clear hown3 hgr3 hor3)
                go_roundg (k - (q + 1))
                case measure => omega
                case rel => exact ⟨q + 1, by omega, by simp, by rw [HY.out.2]; rfl, Lib.hid ⟨HB3.out, by rw [HY.out.1, List.map_append]; exact HO3.out⟩⟩
              · have HY := Lib.hid (ptv_old (E := RE g) (i := q) (by rw [hp]; omega))
                rw [hnz, hp] at HY
                clear hp hnz
                go_wp2_with (at_builtin; refine wpList_append_lies (wr3.alloc (.cells #[.int .i64 p] 3)) rfl (.tmp 64) (.tmp 66) 24 rfl W2.heap.size 3 i0 (.int .i64 0) 1 8 Try.underlying24 hi0 hz0 hz1 hz2 rfl (by decide) u6 q _ rfl (HS.out.2.alloc _) ⟨wr3.heap.size, 0, none⟩ 1 1 [.int .i64 p] rfl rfl (World.news_of_block (heap_alloc_new _ _)) (by simp [Value.oneCell']) (by omega) (by unfold maxLen; omega) (by omega) (by have := HS.out.1.size; simp; omega) (wr3.heap.size + 1) (by simp) ?_; intro g3 cap3 w3 hown3 hgr3 hor3 hlt3; have HO3 := Lib.hid hown3; have HB3 := Lib.hid (Below.own HS.out.1 HS.out.2 hgr3); clear hown3 hgr3 hor3)
                go_roundg (k - (q + 1))
                case measure => omega
                case rel => exact ⟨q + 1, by omega, by simp, by rw [HY.out.2], Lib.hid ⟨HB3.out, by rw [HY.out.1, List.map_append]; exact HO3.out⟩⟩
        · obtain rfl : i = k := by omega
          go_wp2_with fail
          go_ret
          refine ⟨_, rfl, ?_, HM.out.below.trans (HS.out.1.mono HM.out.below.size)⟩
          have e : partsI g = (cnS (RE g) i).1.map (fun x : Nat => (x : Int)) := by unfold partsI; rw [← RP.out]
          have hl : ((cnS (RE g) i).1.map (fun x : Nat => (x : Int))).length = i := by simp [cnS_len]
          rw [e]
          exact own_ints (by rw [hl]; exact HS.out.2)
end Go.Proofs.Ytnlaonppgebpoaa
