/-
  A table as a law's argument; two numbers. spinnakerlaw18.light: the walk. fair.Good, ref18.Good: the walks. fair.Good, ref18.Good of no mode. FairFound, FairNone: plain. spinnakerlaw18.known: plain. spinnakerlaw18.known: the walk. (Written by gen_known18.py.)
-/
import Derived.Test.YtnlaonppgebpoaaFairA
import Derived.Test.YtnlaonppgebpoaaArgs
import Derived.Test.YtnlaonppgebpoaaFairB
import Derived.Test.YtnlaonppgebpoaaKnown14
namespace Go.Proofs.Ytnlaonppgebpoaa
open Go.RowKit Go.ChangeShapes Go.WideShapes Go.Deep

theorem cellsOf33 : Try.prog.cellsOf 33 = 1 := by kernel_rfl
theorem cellsOf53 : Try.prog.cellsOf 53 = 1 := by kernel_rfl
theorem cellsOf55 : Try.prog.cellsOf 55 = 5 := by kernel_rfl
theorem cellsOf60 : Try.prog.cellsOf 60 = 2 := by kernel_rfl
section
variable {H : Type} {enc : TypeId × Value → H} {w : World} {base : Nat}
theorem brows_open {held : Bool} {fuel : Nat} {cs : List Value} {x : DataW H × List MemPlace} (h : DataW.trod enc Try.prog w base (fun _ => true) held fuel 53 cs = some x) :
    ∃ v l, cs = [v] ∧ BRowsAt w v l ∧ l.length ≤ maxLen ∧ ∀ r ∈ l, r.length ≤ maxLen := by
  rcases open_slice Try.underlying53 h with ⟨rfl, -⟩ | ⟨a, len, cap, m, n, D, Pl, rfl, _, hlc, hm, hmm, -, hx⟩
  · exact ⟨_, [], rfl, ⟨none, 0, rfl, fun j hj => by simp at hj⟩, by simp, by simp⟩
  · rw [cellsOf33] at hx
    have hlm : len ≤ m := by rw [hmm]; split <;> omega
    obtain ⟨F, hF⟩ := choose_lt (α := Value × List Bool) (n := m) (p := fun i e => w.cell? (a.add (i * 1)) = some e.1 ∧ BoolsAt w e.1 e.2 ∧ e.2.length ≤ maxLen) (fun i hi => by
      obtain ⟨cs', h1, h2⟩ := hx i hi
      obtain ⟨v', l', rfl, hb', hl'⟩ := bools_open h2
      obtain ⟨_, _, hcell⟩ := World.cells?_some h1
      have q0 := hcell 0 (by simp)
      rw [add_add] at q0
      exact ⟨(v', l'), by simpa using q0, hb', hl'⟩)
    have htl : ((List.range len).map (fun i => (F i).2)).length = len := by simp
    refine ⟨_, (List.range len).map (fun i => (F i).2), rfl, ⟨some a, cap, by rw [htl], ?_⟩, by rw [htl]; omega, fun r hr => ?_⟩
    · intro j hj
      rw [htl] at hj
      obtain ⟨b, off, spot⟩ := a
      have hspot : spot = none := by simpa [Addr.add] using World.cell?_spot (hF 0 (by omega)).1
      subst hspot
      obtain ⟨f0, f1, f2⟩ := hF j (by omega)
      rw [Go.WideShapes.add_plain, Nat.mul_one] at f0
      have e : ((List.range len).map (fun i => (F i).2)).getD j [] = (F j).2 := by simp [List.getD, hj]
      exact ⟨b, off, (F j).1, rfl, f0, by rw [e]; exact f1⟩
    · obtain ⟨i, hi, rfl⟩ := List.mem_map.1 hr
      exact (hF i (by have := List.mem_range.1 hi; omega)).2.2
theorem list_len5 {α : Type} {l : List α} (h : l.length = 5) : ∃ a b c d e, l = [a, b, c, d, e] := by
  match l, h with
  | [a, b, c, d, e], _ => exact ⟨a, b, c, d, e, rfl⟩
end
section
variable {H : Type} {enc : TypeId × Value → H} {W : World} {r : Reach} {b0 base : Nat}
/-- a table of whatever size -/
structure TabArg (w : World) (v : Value) (g : Gr) (en : List (List Bool)) (ag : Int) : Prop where
  ex : ∃ s a t u, v = .agg #[s, a, t, u, .int .i64 ag] ∧ GraphArg w (.agg #[s, a, t]) g ∧ BRowsAt w u en
  len : en.length ≤ 9223372036854775807
  rows : ∀ r ∈ en, r.length ≤ 9223372036854775807
set_option maxRecDepth 100000 in
theorem arg_table {held : Bool} {v : Value} {d : DataW H} {p : List MemPlace} (hval : Value.okWide Try.prog W r b0 55 v) (h : DataW.Trod enc Try.prog W base (fun _ => true) held 55 v d p) : ∃ g en ag, TabArg W v g en ag := by
  obtain ⟨cs, rfl, hsz⟩ := okWide_struct Try.underlying55 hval
  obtain ⟨fuel, hf⟩ := h
  rw [cellsOf55] at hsz
  obtain ⟨c0, c1, c2, c3, c4, hcs⟩ := list_len5 (l := cs.toList) (by simpa using hsz)
  obtain rfl : cs = #[c0, c1, c2, c3, c4] := by cases cs; simp_all
  obtain ⟨y0, y1, y2, n', -, hl, g0, g1, g2⟩ := trod_struct3 Try.underlying55 hf
  clear hl
  obtain ⟨s, a, t, g, e, h1, h2, h3, m1, m2, m3, -⟩ := graph_open (v := .agg #[c0, c1, c2]) ⟨_, rfl, rfl⟩ (by simpa [cellsOf26, Value.cells] using g0)
  simp only [Value.agg.injEq, Array.mk.injEq, List.cons.injEq, and_true] at e
  obtain ⟨rfl, rfl, rfl⟩ := e
  obtain ⟨u, en, e1, hb, hl1, hl2⟩ := brows_open (by simpa [cellsOf53, Value.cells] using g1)
  obtain ⟨x, e2, -⟩ := DataW.trod_int Try.underlying3 (by simpa [cellsOf3, Value.cells] using g2)
  simp only [List.cons.injEq, and_true] at e1 e2
  subst e1 e2
  exact ⟨g, en, x, ⟨_, _, _, _, rfl, ⟨⟨_, _, _, rfl, h1, h2, h3⟩, m1, m2, m3⟩, hb⟩, hl1, hl2⟩
theorem TabArg.below {w w' : World} {v : Value} {g : Gr} {en : List (List Bool)} {ag : Int} (h : TabArg w v g en ag) (hb : Below w.heap.size w w') : TabArg w' v g en ag :=
  let ⟨⟨s, a, t, u, e, h1, h2⟩, h3, h4⟩ := h
  ⟨⟨s, a, t, u, e, h1.below hb, h2.below hb⟩, h3, h4⟩
set_option maxRecDepth 100000 in
theorem arg_two {held : Bool} {v : Value} {d : DataW H} {p : List MemPlace} (hval : Value.okWide Try.prog W r b0 60 v) (h : DataW.Trod enc Try.prog W base (fun _ => true) held 60 v d p) : ∃ x y : Int, v = .agg #[.int .i64 x, .int .i64 y] ∧ (Lit.int .i64 x).wf = true ∧ (Lit.int .i64 y).wf = true := by
  obtain ⟨cs, rfl, hsz⟩ : ∃ cs, v = .agg cs ∧ cs.size = 2 := by
    simp only [Value.okWide, Try.underlying60] at hval
    obtain ⟨cs, h1, h2, _⟩ := hval
    exact ⟨cs, h1, by rw [h2]; exact cellsOf60⟩
  obtain ⟨fuel, hf⟩ := h
  obtain ⟨c0, c1, hcs⟩ : ∃ a b, cs.toList = [a, b] := by
    match h : cs.toList, (show cs.toList.length = 2 by simpa using hsz) with
    | [a, b], _ => exact ⟨a, b, rfl⟩
  obtain rfl : cs = #[c0, c1] := by cases cs; simp_all
  obtain ⟨xs, m, -, -, -, hxl, hx⟩ := DataW.trod_array Try.underlying60 hf
  have g0 := hx 0 (by decide)
  have g1 := hx 1 (by decide)
  simp only [cellsOf3, Value.cells] at g0 g1
  obtain ⟨y0, e0⟩ : ∃ y, xs[0]? = some y := ⟨xs[0]'(by rw [hxl]; decide), List.getElem?_eq_getElem _⟩
  obtain ⟨y1, e1⟩ : ∃ y, xs[1]? = some y := ⟨xs[1]'(by rw [hxl]; decide), List.getElem?_eq_getElem _⟩
  rw [e0] at g0
  rw [e1] at g1
  obtain ⟨x, e2, -, hw0⟩ := DataW.trod_int Try.underlying3 (cs := [c0]) (by simpa using g0)
  obtain ⟨y, e3, -, hw1⟩ := DataW.trod_int Try.underlying3 (cs := [c1]) (by simpa using g1)
  simp only [List.cons.injEq, and_true] at e2 e3
  subst e2 e3
  exact ⟨x, y, rfl, hw0, hw1⟩
end
end Go.Proofs.Ytnlaonppgebpoaa

namespace Go.Proofs.Ytnlaonppgebpoaa
open Go.RowKit

def litT (g : Gr) (en : List (List Bool)) (ag : Int) : Bool := decide (g.S.length ≤ 40 ∧ g.T.length ≤ 200 ∧ g.A.length ≤ 200 ∧ en.length ≤ 60 ∧ ag ≤ 20 ∧ ∀ r ∈ en, r.length ≤ 30)
theorem litT_spec {g : Gr} {en : List (List Bool)} {ag : Int} (h : litT g en ag = true) : g.S.length ≤ 40 ∧ g.T.length ≤ 200 ∧ g.A.length ≤ 200 ∧ en.length ≤ 60 ∧ ag ≤ 20 ∧ ∀ r ∈ en, r.length ≤ 30 := of_decide_eq_true h
theorem TabArg.var {w : World} {v : Value} {g : Gr} {en : List (List Bool)} {ag : Int} (h : TabArg w v g en ag) : ∃ sa aa ta sc ac tc ua uc, v = .agg #[.slice sa g.S.length sc, .slice aa g.A.length ac, .slice ta g.T.length tc, .slice ua en.length uc, .int .i64 ag] ∧
    GraphArg w (.agg #[.slice sa g.S.length sc, .slice aa g.A.length ac, .slice ta g.T.length tc]) g ∧ BRowsAt w (.slice ua en.length uc) en := by
  obtain ⟨s, a, t, u, rfl, hg, hu⟩ := h.ex
  obtain ⟨sa, aa, ta, sc, ac, tc, e⟩ := hg.var
  simp only [Value.agg.injEq, Array.mk.injEq, List.cons.injEq, and_true] at e
  obtain ⟨rfl, rfl, rfl⟩ := e
  obtain ⟨ua, uc, rfl, h2⟩ := hu
  exact ⟨sa, aa, ta, sc, ac, tc, ua, uc, rfl, hg, ⟨ua, uc, rfl, h2⟩⟩
set_option maxRecDepth 100000 in
set_option maxHeartbeats 16000000 in
theorem tlight_ok (v : Value) (g : Gr) (en : List (List Bool)) (ag : Int) (w : World) (h : TabArg w v g en ag) :
    Calls Try.prog 52 #[v] w fun e w' => e = .returned (.bool (litT g en ag)) ∧ Below w.heap.size w w' := by
  have hrl := h.rows
  have hel := h.len
  obtain ⟨sa, aa, ta, sc, ac, tc, ua, uc, rfl, hg, hu⟩ := h.var
  have HB := Lib.hid (balloc w (.cells #[.slice sa g.S.length sc, .slice aa g.A.length ac, .slice ta g.T.length tc, .slice ua en.length uc, .int .i64 ag] 55))
  have hsS := hg.sS
  have hsA := hg.sA
  have hsT := hg.sT
  obtain ⟨ua', uc', e, hrow⟩ := hu
  simp only [Value.slice.injEq, true_and] at e
  obtain ⟨rfl, rfl⟩ := e
  have HRW := Lib.hid hrow
  have HRL := Lib.hid (fun k (hk : k < en.length) => hrl (en.getD k []) (by simp [List.getD, hk]))
  clear hrow hrl h hg
  by_cases h1 : (40 : Int) < (g.S.length : Int)
  · have E : litT g en ag = false := decide_eq_false (fun h => by omega)
    rw [E]
    clear E
    go_enter Try.func52, Try.ntmps52
    go_wp2_with fail
    go_ret
    exact ⟨rfl, HB.out⟩
  by_cases h2 : (200 : Int) < (g.T.length : Int)
  · have E : litT g en ag = false := decide_eq_false (fun h => by omega)
    rw [E]
    clear E
    go_enter Try.func52, Try.ntmps52
    go_wp2_with fail
    go_ret
    exact ⟨rfl, HB.out⟩
  by_cases h3 : (200 : Int) < (g.A.length : Int)
  · have E : litT g en ag = false := decide_eq_false (fun h => by omega)
    rw [E]
    clear E
    go_enter Try.func52, Try.ntmps52
    go_wp2_with fail
    go_ret
    exact ⟨rfl, HB.out⟩
  by_cases h4 : (60 : Int) < (en.length : Int)
  · have E : litT g en ag = false := decide_eq_false (fun h => by omega)
    rw [E]
    clear E
    go_enter Try.func52, Try.ntmps52
    go_wp2_with fail
    go_ret
    exact ⟨rfl, HB.out⟩
  by_cases h5 : (20 : Int) < ag
  · have E : litT g en ag = false := decide_eq_false (fun h => by omega)
    rw [E]
    clear E
    go_enter Try.func52, Try.ntmps52
    go_wp2_with fail
    go_ret
    exact ⟨rfl, HB.out⟩
  have HE : Hid ((∀ r ∈ en, r.length ≤ 30) → litT g en ag = true) := Lib.hid (fun h => decide_eq_true ⟨by omega, by omega, by omega, by omega, by omega, h⟩)
  have HN : Hid (∀ k, k < en.length → 30 < (en.getD k []).length → litT g en ag = false) := Lib.hid (fun k hk h => decide_eq_false (fun h2 => by
    have := h2.2.2.2.2.2 (en.getD k []) (by simp [List.getD, hk])
    omega))
  generalize litT g en ag = L at *
  go_enter Try.func52, Try.ntmps52
  go_wp2_with fail
  go_loopg [3] en.length (fun fu c wr => ∃ k : Nat, k + fu = en.length ∧ c = .int .i64 k ∧ (∀ j, j < k → (en.getD j []).length ≤ 30) ∧ wr = w.alloc (.cells #[.slice sa g.S.length sc, .slice aa g.A.length ac, .slice ta g.T.length tc, .slice ua en.length uc, .int .i64 ag] 55))
  case atStart => exact ⟨0, by omega, rfl, fun j hj => by omega, rfl⟩
  case round =>
    obtain ⟨k, hk, rfl, hall, rfl⟩ := hrel
    have HAL := Lib.hid hall
    clear hall
    by_cases hlt : k < en.length
    · have z1 : (k : Int) < (en.length : Int) := by omega
      obtain ⟨b1, o1, rv, rfl, d1, ra, rc, rfl, -⟩ := HRW.out k hlt
      have y1 := bkeep HB.out d1
      have hr1 := HRL.out k hlt
      by_cases hs : (30 : Int) < ((en.getD k []).length : Int)
      · have E := Lib.hid (HN.out k hlt (by omega))
        generalize en.getD k [] = row at *
        go_wp2_with fail
        go_ret
        exact ⟨by rw [E.out]; rfl, HB.out⟩
      · have HNX : Hid (∀ j, j < k + 1 → (en.getD j []).length ≤ 30) := Lib.hid (fun j hj => by
          by_cases e : j = k
          · rw [e]; omega
          · exact HAL.out j (by omega))
        generalize en.getD k [] = row at *
        go_wp2_with fail
        go_roundg (en.length - (k + 1))
        case measure => omega
        case rel => exact ⟨k + 1, by omega, by simp, HNX.out, rfl⟩
    · obtain rfl : k = en.length := by omega
      have E := Lib.hid (HE.out (fun r hr => by
        obtain ⟨j, hj, rfl⟩ := List.getElem_of_mem hr
        have := HAL.out j hj
        simpa [List.getD, hj] using this))
      go_wp2_with fail
      go_ret
      exact ⟨by rw [E.out]; rfl, HB.out⟩
end Go.Proofs.Ytnlaonppgebpoaa

namespace Go.Proofs.Ytnlaonppgebpoaa
open Go.RowKit

/-- a list of nodes, none twice -/
def OkP (n : Nat) (p : List Int) : Prop := p.Nodup ∧ ∀ x ∈ p, ∃ i : Nat, x = (i : Int) ∧ i < n
theorem okp_nil (n : Nat) : OkP n [] := ⟨List.nodup_nil, fun x hx => by simp at hx⟩
theorem okp_take {n : Nat} {p : List Int} (h : OkP n p) (k : Nat) : OkP n (p.take k) := ⟨h.1.sublist (List.take_sublist k p), fun x hx => h.2 x (List.mem_of_mem_take hx)⟩
theorem okp_step {n k q : Nat} {part : List Int} (hk : k < part.length) (h : OkP n (part.take k)) (hq : part.getD k 0 = (q : Int)) (hqn : q < n) (hm : (maskL n (part.take k)).getD q false = false) : OkP n (part.take (k + 1)) := by
  rw [take_snoc hk, hq]
  have hno : (q : Int) ∉ part.take k := fun e => by rw [(maskL_get hqn).2 e] at hm; cases hm
  refine ⟨List.nodup_append.2 ⟨h.1, by simp, fun a ha b hb => ?_⟩, fun x hx => ?_⟩
  · obtain rfl := List.mem_singleton.1 hb
    exact fun e => hno (e ▸ ha)
  · rcases List.mem_append.1 hx with hx | hx
    · exact h.2 x hx
    · obtain rfl := List.mem_singleton.1 hx
      exact ⟨q, rfl, hqn⟩
theorem mask_step {n k q : Nat} {part : List Int} (hk : k < part.length) (hq : part.getD k 0 = (q : Int)) : (maskL n (part.take k)).set q true = maskL n (part.take (k + 1)) := by
  refine List.ext_getElem (by rw [List.length_set, maskL_len, maskL_len]) fun i h1 h2 => ?_
  rw [maskL_len] at h2
  have e1 : (maskL n (part.take (k + 1)))[i]'(by rw [maskL_len]; exact h2) = decide ((i : Int) ∈ part.take (k + 1)) := by simp [maskL, tab]
  have e2 : (maskL n (part.take k))[i]'(by rw [maskL_len]; exact h2) = decide ((i : Int) ∈ part.take k) := by simp [maskL, tab]
  rw [e1, List.getElem_set, e2, take_snoc hk, hq]
  by_cases e : q = i
  · subst e; simp
  · rw [if_neg e]
    refine decide_same ?_
    rw [List.mem_append, List.mem_singleton]
    exact ⟨.inl, fun h => h.elim id (fun h => absurd (by omega) e)⟩
theorem okp_bad {n k : Nat} {part : List Int} (hk : k < part.length) (h : ¬ (0 ≤ part.getD k 0 ∧ part.getD k 0 < (n : Int))) : ¬ OkP n part := fun ho => by
  obtain ⟨i, e, hi⟩ := ho.2 _ (getD_mem hk)
  rw [e] at h
  omega
theorem okp_twice {n k q : Nat} {part : List Int} (hk : k < part.length) (hq : part.getD k 0 = (q : Int)) (hqn : q < n) (hm : (maskL n (part.take k)).getD q false = true) : ¬ OkP n part := fun ho => by
  have h1 := (okp_take ho (k + 1)).1
  rw [take_snoc hk, hq] at h1
  exact (List.nodup_append.1 h1).2.2 _ ((maskL_get hqn).1 hm) _ (List.mem_singleton.2 rfl) rfl
theorem mask_nil (n : Nat) : maskL n [] = List.replicate n false := by
  unfold maskL
  rw [← tab_false]
  exact tab_same fun x _ => by simp
/-- a row of truths of the call's own, behind all that lay in w0 -/
structure MkM (w0 wr : World) (l : List Bool) : Prop where
  below : Below w0.heap.size w0 wr
  blk : wr.heap[w0.heap.size]? = some (.cells (bools l) 4 (0, 0))
theorem MkM.set {w0 wr : World} {l : List Bool} (h : MkM w0 wr l) (q : Nat) (b : Bool) : MkM w0 (wr.setCell ⟨w0.heap.size, q, none⟩ (.bool b)) (l.set q b) :=
  ⟨h.below.setCell (p := ⟨w0.heap.size, q, none⟩) (Nat.le_refl _) _, by rw [heap_setCell_block h.blk, bools_set]⟩
theorem MkM.cell {w0 wr : World} {l : List Bool} (h : MkM w0 wr l) {q : Nat} (hq : q < l.length) : wr.cell? ⟨w0.heap.size, q, none⟩ = some (.bool (l.getD q false)) := cell_of_block h.blk q _ (bools_get _ q hq)
theorem MkM.free {w0 wr : World} {l : List Bool} (h : MkM w0 wr l) (q : Nat) : wr.frozen? ⟨w0.heap.size, q, none⟩ = false := free_of_block h.blk q
theorem MkM.same {w0 wr : World} {l l' : List Bool} (h : MkM w0 wr l) (e : l = l') : MkM w0 wr l' := e ▸ h
open Classical in
noncomputable def goodB (g : Gr) (en : List (List Bool)) (ag how : Int) (part : List Int) : Bool :=
  decide (RT g en ag ∧ OkP (nodesN g) part ∧ (withinI g (maskL (nodesN g) part)).length = 1 ∧ ((how = 1 ∧ fairB g en spW ag.toNat part = true) ∨ (how = 2 ∧ fairB g en spS ag.toNat part = true)))
open Classical in
theorem goodB_not {g : Gr} {en : List (List Bool)} {ag how : Int} {part : List Int} (h : ¬ (RT g en ag ∧ OkP (nodesN g) part ∧ (withinI g (maskL (nodesN g) part)).length = 1 ∧ ((how = 1 ∧ fairB g en spW ag.toNat part = true) ∨ (how = 2 ∧ fairB g en spS ag.toNat part = true)))) : goodB g en ag how part = false := decide_eq_false h
open Classical in
theorem goodB_iff {g : Gr} {en : List (List Bool)} {ag how : Int} {part : List Int} : goodB g en ag how part = true ↔ (RT g en ag ∧ OkP (nodesN g) part ∧ (withinI g (maskL (nodesN g) part)).length = 1 ∧ ((how = 1 ∧ fairB g en spW ag.toNat part = true) ∨ (how = 2 ∧ fairB g en spS ag.toNat part = true))) := decide_eq_true_iff
theorem goodB_1 {g : Gr} {en : List (List Bool)} {A : Nat} {part : List Int} (h : RT g en (A : Nat)) (ho : OkP (nodesN g) part) : goodB g en (A : Nat) 1 part = (decide ((withinI g (maskL (nodesN g) part)).length = 1) && fairB g en spW A part) := by
  rw [Bool.eq_iff_iff, goodB_iff, Bool.and_eq_true, decide_eq_true_iff, Int.toNat_natCast]
  exact ⟨fun q => ⟨q.2.2.1, q.2.2.2.elim (fun z => z.2) (fun z => absurd z.1 (by omega))⟩, fun q => ⟨h, ho, q.1, .inl ⟨rfl, q.2⟩⟩⟩
theorem goodB_2 {g : Gr} {en : List (List Bool)} {A : Nat} {part : List Int} (h : RT g en (A : Nat)) (ho : OkP (nodesN g) part) : goodB g en (A : Nat) 2 part = (decide ((withinI g (maskL (nodesN g) part)).length = 1) && fairB g en spS A part) := by
  rw [Bool.eq_iff_iff, goodB_iff, Bool.and_eq_true, decide_eq_true_iff, Int.toNat_natCast]
  exact ⟨fun q => ⟨q.2.2.1, q.2.2.2.elim (fun z => absurd z.1 (by omega)) (fun z => z.2)⟩, fun q => ⟨h, ho, q.1, .inr ⟨rfl, q.2⟩⟩⟩
theorem goodB_how {g : Gr} {en : List (List Bool)} {ag how : Int} {part : List Int} (h1 : how ≠ 1) (h2 : how ≠ 2) : goodB g en ag how part = false :=
  goodB_not fun q => q.2.2.2.elim (fun z => h1 z.1) (fun z => h2 z.1)
open Classical in
theorem goodB_rt {g : Gr} {en : List (List Bool)} {ag how : Int} {part : List Int} (h : rtB g en ag = false) : goodB g en ag how part = false :=
  goodB_not fun q => by
    unfold rtB at h
    exact of_decide_eq_false h q.1
set_option maxRecDepth 100000 in
set_option maxHeartbeats 16000000 in
theorem rgood_1 (v u pv : Value) (g : Gr) (en : List (List Bool)) (ag : Int) (part : List Int) (w : World) (h : GraphAt w v g) (hu : BRowsAt w u en) (hp : IntsAt w pv part) (hl : part.length ≤ 1000000) (hn : nodesN g ≤ 100000) :
    Calls Try.prog 62 #[v, u, .int .i64 ag, .int .i64 1, pv] w fun e w' => e = .returned (.bool (goodB g en ag 1 part)) ∧ Below w.heap.size w w' := by
  obtain ⟨sa, aa, ta, sc, ac, tc, rfl, -⟩ := h.var
  have hb := balloc w (.cells #[.slice sa g.S.length sc, .slice aa g.A.length ac, .slice ta g.T.length tc] 26)
  have HB := Lib.hid hb
  have X0 := Lib.hid (heap_alloc_new w (.cells #[.slice sa g.S.length sc, .slice aa g.A.length ac, .slice ta g.T.length tc] 26))
  have HR := Lib.hid (fun (w' : World) (hb : Below w.heap.size w w') => rrt_ok _ u g en ag w' (h.below hb) (hu.below hb))
  cases hr : rtB g en ag
  · have E : goodB g en ag 1 part = false := goodB_rt hr
    rw [hr] at HR
    rw [E]
    clear h hb hu hr E
    go_enter Try.func62, Try.ntmps62
    go_wp2_with (go_at_call 60; refine (HR.out _ HB.out).mono ?_; rintro e w1 ⟨rfl, hb1⟩; have HB1 := Lib.hid (HB.out.trans (hb1.mono HB.out.size)); clear hb1)
    go_ret
    exact ⟨rfl, HB1.out⟩
  have hRT := rtB_rt hr
  obtain ⟨A, rfl, hA, hrows⟩ := hRT.nat
  rw [hr] at HR
  have hlen := hRT.len
  have hNE : nodesN g = en.length := by omega
  have HBAD : Hid (∀ k, k < part.length → ¬ (0 ≤ part.getD k 0 ∧ part.getD k 0 < (nodesN g : Int)) → goodB g en (A : Nat) 1 part = false) := Lib.hid (fun k hk hx => goodB_not fun q => okp_bad hk hx q.2.1)
  have HTW : Hid (∀ k q : Nat, k < part.length → part.getD k 0 = (q : Int) → q < nodesN g → (maskL (nodesN g) (part.take k)).getD q false = true → goodB g en (A : Nat) 1 part = false) := Lib.hid (fun k q hk hq hqn hx => goodB_not fun z => okp_twice hk hq hqn hx z.2.1)
  have HST : Hid (∀ k q : Nat, k < part.length → part.getD k 0 = (q : Int) → q < nodesN g → OkP (nodesN g) (part.take k) → (maskL (nodesN g) (part.take k)).getD q false = false → OkP (nodesN g) (part.take (k + 1)) ∧ (maskL (nodesN g) (part.take k)).set q true = maskL (nodesN g) (part.take (k + 1))) := Lib.hid (fun k q hk hq hqn ho hx => ⟨okp_step hk ho hq hqn hx, mask_step hk hq⟩)
  have HEND : Hid (OkP (nodesN g) (part.take part.length) → goodB g en (A : Nat) 1 part = (decide ((withinI g (maskL (nodesN g) (part.take part.length))).length = 1) && fairB g en spW A part)) := Lib.hid (fun ho => by
    rw [List.take_length] at ho ⊢
    exact goodB_1 hRT ho)
  have K0 : Hid (OkP (nodesN g) (part.take 0)) := Lib.hid (okp_nil _)
  have HML : Hid (∀ p, (maskL (nodesN g) p).length = nodesN g) := Lib.hid (maskL_len _)
  have T0 : Hid (maskL (nodesN g) (part.take 0) = List.replicate (nodesN g) false) := Lib.hid (mask_nil _)
  have HWI := Lib.hid (fun (w' : World) (hb : Below w.heap.size w w') (mv : Value) (p : List Int) (hk : BoolsAt w' mv (maskL (nodesN g) p)) => (by have q := rwithinF_ok _ mv g _ w' (h.below hb) hk (by rw [maskL_len]; omega); rw [← within_eq] at q; exact q : Calls Try.prog 49 #[.agg #[.slice sa g.S.length sc, .slice aa g.A.length ac, .slice ta g.T.length tc], mv] w' (RowsBack w' (withinI g (maskL (nodesN g) p)))))
  have HF := Lib.hid (fun (ho : ∀ x ∈ part, 0 ≤ x ∧ x < (en.length : Int)) (w' : World) (hb : Below w.heap.size w w') => rfair_weak _ u pv g en A part w' (h.below hb) (hu.below hb) (hp.below hb) hA hrows ho (by omega) hl)
  have HO : Hid (OkP (nodesN g) (part.take part.length) → ∀ x ∈ part, 0 ≤ x ∧ x < (en.length : Int)) := Lib.hid (fun ho x hx => by
    rw [List.take_length] at ho
    obtain ⟨i, rfl, hi⟩ := ho.2 x hx
    omega)
  obtain ⟨ua, uc, rfl, -⟩ := hu
  obtain ⟨pa, pc, rfl, hpc⟩ := hp
  have HP := Lib.hid hpc
  have hNl : nodesN g ≤ 100000 := hn
  clear h hb hr hRT hlen hrows hpc hn
  rw [← hNE] at *
  generalize goodB g en (A : Nat) 1 part = GB at *
  generalize fairB g en spW A part = FB at *
  generalize withinI g = WN at *
  generalize maskL (nodesN g) = MK at *
  generalize nodesN g = N at *
  obtain ⟨n, hnn⟩ : ∃ n, part.length = n := ⟨_, rfl⟩
  rw [hnn] at HP HBAD HTW HST HEND HO HF hl ⊢
  clear hnn hNE
  go_enter Try.func62, Try.ntmps62
  go_wp2_with (first
    | (go_at_call 60; refine (HR.out _ HB.out).mono ?_; rintro e w1 ⟨rfl, hb1⟩; have HBQ := Lib.hid (HB.out.trans (hb1.mono HB.out.size)); have X3 := Lib.hid (bheap hb1 X0.out); clear hb1)
    | (at_make; refine wpList_make_one _ rfl (.tmp 27) (.tmp 27) 33 rfl 4 (.bool false) rfl 1 Try.underlying33 Try.info4 .i64 .i64 (N : Nat) (N : Nat) N rfl rfl rfl rfl (by omega) (by unfold maxLen; omega) ?_; intro w4 hh4 hb4 hlt4; have M0 := Lib.hid (show MkM w1 w4 (MK (part.take 0)) from ⟨hb4, by rw [T0.out, bools_replicate]; simpa using hh4⟩); clear hb4 hh4 hlt4))
  go_loopg [12] n (fun fu c wr => ∃ k : Nat, k + fu = n ∧ c = .int .i64 k ∧ Hid (OkP N (part.take k)) ∧ Hid (MkM w1 wr (MK (part.take k))))
  case atStart => exact ⟨0, by omega, rfl, K0, M0⟩
  case round =>
    clear M0 K0
    obtain ⟨k, hk, rfl, HK, HM⟩ := hrel
    by_cases hlt : k < n
    · have z1 : (k : Int) < (n : Int) := by omega
      obtain ⟨b1, o1, rfl, d1⟩ := HP.out k hlt
      have d1 := bkeep (HBQ.out.trans (HM.out.below.mono HBQ.out.size)) d1
      by_cases h0 : part.getD k 0 < 0
      · have E := Lib.hid (HBAD.out k hlt (by omega))
        clear HBAD HTW HST
        generalize part.getD k 0 = x at *
        go_wp2_with fail
        go_ret
        exact ⟨by rw [E.out]; rfl, HBQ.out.trans (HM.out.below.mono HBQ.out.size)⟩
      by_cases h1 : (N : Int) ≤ part.getD k 0
      · have E := Lib.hid (HBAD.out k hlt (by omega))
        clear HBAD HTW HST
        generalize part.getD k 0 = x at *
        go_wp2_with fail
        go_ret
        exact ⟨by rw [E.out]; rfl, HBQ.out.trans (HM.out.below.mono HBQ.out.size)⟩
      obtain ⟨q, hq⟩ : ∃ q : Nat, part.getD k 0 = (q : Int) := ⟨(part.getD k 0).toNat, by omega⟩
      have hqN : q < N := by omega
      have TW := Lib.hid (HTW.out k q hlt hq hqN)
      have STP := Lib.hid (HST.out k q hlt hq hqN HK.out)
      rw [hq] at d1 h0 h1
      have z2 : (q : Int) < (N : Int) := by omega
      have d2 := HM.out.cell (q := q) (by rw [HML.out]; exact hqN)
      have d3 := HM.out.free q
      clear HBAD HTW HST hq
      cases hx : (MK (part.take k)).getD q false
      · rw [hx] at d2
        have E := Lib.hid (STP.out hx)
        have HM2 := Lib.hid ((HM.out.set q true).same E.out.2)
        clear hx TW STP
        go_wp2_with fail
        go_roundg (n - (k + 1))
        case measure => omega
        case rel => exact ⟨k + 1, by omega, by simp, Lib.hid E.out.1, HM2⟩
      · rw [hx] at d2
        have E := Lib.hid (TW.out hx)
        clear hx TW STP
        go_wp2_with fail
        go_ret
        exact ⟨by rw [E.out]; rfl, HBQ.out.trans (HM.out.below.mono HBQ.out.size)⟩
    · obtain rfl : k = n := by omega
      have HBW := Lib.hid (HBQ.out.trans (HM.out.below.mono HBQ.out.size))
      have HIN := Lib.hid (HWI.out _ HBW.out _ _ (boolsAt_block HM.out.blk (HML.out _).symm N))
      have E := Lib.hid (HEND.out HK.out)
      have HF := Lib.hid (HF.out (HO.out HK.out))
      have X5 := Lib.hid (bheap HM.out.below X3.out)
      have c0 := cell_of_block X5.out 0 _ rfl
      have c1 := cell_of_block X5.out 1 _ rfl
      have c2 := cell_of_block X5.out 2 _ rfl
      clear HEND HBAD HTW HST
      by_cases hr : (WN (MK (part.take k))).length = 1
      · have hr2 : (((WN (MK (part.take k))).length : Int) == 1) = true := by simp [hr]
        go_wp2_with (first
          | (go_at_call 49; refine HIN.out.mono ?_; rintro e w5 ⟨rv, rfl, ⟨ra, rc, rfl, -⟩, hb5⟩; have HB5 := Lib.hid (HBW.out.trans (hb5.mono HBW.out.size)); have X6 := Lib.hid (bheap hb5 X5.out); have e0 := cell_of_block X6.out 0 _ rfl; have e1 := cell_of_block X6.out 1 _ rfl; have e2 := cell_of_block X6.out 2 _ rfl; clear hb5)
          | (go_at_call 92; refine (HF.out _ HB5.out).mono ?_; rintro e w6 ⟨rfl, hb6⟩; have HB6 := Lib.hid (HB5.out.trans (hb6.mono HB5.out.size)); clear hb6))
        go_ret
        exact ⟨by rw [E.out]; simp [hr], HB6.out⟩
      · have hr2 : (((WN (MK (part.take k))).length : Int) == 1) = false := by
          have : ((WN (MK (part.take k))).length : Int) ≠ 1 := by omega
          simp [this]
        go_wp2_with (go_at_call 49; refine HIN.out.mono ?_; rintro e w5 ⟨rv, rfl, ⟨ra, rc, rfl, -⟩, hb5⟩; have HB5 := Lib.hid (HBW.out.trans (hb5.mono HBW.out.size)); clear hb5)
        go_ret
        exact ⟨by rw [E.out]; simp [hr], HB5.out⟩
set_option maxRecDepth 100000 in
set_option maxHeartbeats 16000000 in
theorem rgood_2 (v u pv : Value) (g : Gr) (en : List (List Bool)) (ag : Int) (part : List Int) (w : World) (h : GraphAt w v g) (hu : BRowsAt w u en) (hp : IntsAt w pv part) (hl : part.length ≤ 1000000) (hn : nodesN g ≤ 100000) :
    Calls Try.prog 62 #[v, u, .int .i64 ag, .int .i64 2, pv] w fun e w' => e = .returned (.bool (goodB g en ag 2 part)) ∧ Below w.heap.size w w' := by
  obtain ⟨sa, aa, ta, sc, ac, tc, rfl, -⟩ := h.var
  have hb := balloc w (.cells #[.slice sa g.S.length sc, .slice aa g.A.length ac, .slice ta g.T.length tc] 26)
  have HB := Lib.hid hb
  have X0 := Lib.hid (heap_alloc_new w (.cells #[.slice sa g.S.length sc, .slice aa g.A.length ac, .slice ta g.T.length tc] 26))
  have HR := Lib.hid (fun (w' : World) (hb : Below w.heap.size w w') => rrt_ok _ u g en ag w' (h.below hb) (hu.below hb))
  cases hr : rtB g en ag
  · have E : goodB g en ag 2 part = false := goodB_rt hr
    rw [hr] at HR
    rw [E]
    clear h hb hu hr E
    go_enter Try.func62, Try.ntmps62
    go_wp2_with (go_at_call 60; refine (HR.out _ HB.out).mono ?_; rintro e w1 ⟨rfl, hb1⟩; have HB1 := Lib.hid (HB.out.trans (hb1.mono HB.out.size)); clear hb1)
    go_ret
    exact ⟨rfl, HB1.out⟩
  have hRT := rtB_rt hr
  obtain ⟨A, rfl, hA, hrows⟩ := hRT.nat
  rw [hr] at HR
  have hlen := hRT.len
  have hNE : nodesN g = en.length := by omega
  have HBAD : Hid (∀ k, k < part.length → ¬ (0 ≤ part.getD k 0 ∧ part.getD k 0 < (nodesN g : Int)) → goodB g en (A : Nat) 2 part = false) := Lib.hid (fun k hk hx => goodB_not fun q => okp_bad hk hx q.2.1)
  have HTW : Hid (∀ k q : Nat, k < part.length → part.getD k 0 = (q : Int) → q < nodesN g → (maskL (nodesN g) (part.take k)).getD q false = true → goodB g en (A : Nat) 2 part = false) := Lib.hid (fun k q hk hq hqn hx => goodB_not fun z => okp_twice hk hq hqn hx z.2.1)
  have HST : Hid (∀ k q : Nat, k < part.length → part.getD k 0 = (q : Int) → q < nodesN g → OkP (nodesN g) (part.take k) → (maskL (nodesN g) (part.take k)).getD q false = false → OkP (nodesN g) (part.take (k + 1)) ∧ (maskL (nodesN g) (part.take k)).set q true = maskL (nodesN g) (part.take (k + 1))) := Lib.hid (fun k q hk hq hqn ho hx => ⟨okp_step hk ho hq hqn hx, mask_step hk hq⟩)
  have HEND : Hid (OkP (nodesN g) (part.take part.length) → goodB g en (A : Nat) 2 part = (decide ((withinI g (maskL (nodesN g) (part.take part.length))).length = 1) && fairB g en spS A part)) := Lib.hid (fun ho => by
    rw [List.take_length] at ho ⊢
    exact goodB_2 hRT ho)
  have K0 : Hid (OkP (nodesN g) (part.take 0)) := Lib.hid (okp_nil _)
  have HML : Hid (∀ p, (maskL (nodesN g) p).length = nodesN g) := Lib.hid (maskL_len _)
  have T0 : Hid (maskL (nodesN g) (part.take 0) = List.replicate (nodesN g) false) := Lib.hid (mask_nil _)
  have HWI := Lib.hid (fun (w' : World) (hb : Below w.heap.size w w') (mv : Value) (p : List Int) (hk : BoolsAt w' mv (maskL (nodesN g) p)) => (by have q := rwithinF_ok _ mv g _ w' (h.below hb) hk (by rw [maskL_len]; omega); rw [← within_eq] at q; exact q : Calls Try.prog 49 #[.agg #[.slice sa g.S.length sc, .slice aa g.A.length ac, .slice ta g.T.length tc], mv] w' (RowsBack w' (withinI g (maskL (nodesN g) p)))))
  have HF := Lib.hid (fun (ho : ∀ x ∈ part, 0 ≤ x ∧ x < (en.length : Int)) (w' : World) (hb : Below w.heap.size w w') => rfair_strong _ u pv g en A part w' (h.below hb) (hu.below hb) (hp.below hb) hA hrows ho (by omega) hl)
  have HO : Hid (OkP (nodesN g) (part.take part.length) → ∀ x ∈ part, 0 ≤ x ∧ x < (en.length : Int)) := Lib.hid (fun ho x hx => by
    rw [List.take_length] at ho
    obtain ⟨i, rfl, hi⟩ := ho.2 x hx
    omega)
  obtain ⟨ua, uc, rfl, -⟩ := hu
  obtain ⟨pa, pc, rfl, hpc⟩ := hp
  have HP := Lib.hid hpc
  have hNl : nodesN g ≤ 100000 := hn
  clear h hb hr hRT hlen hrows hpc hn
  rw [← hNE] at *
  generalize goodB g en (A : Nat) 2 part = GB at *
  generalize fairB g en spS A part = FB at *
  generalize withinI g = WN at *
  generalize maskL (nodesN g) = MK at *
  generalize nodesN g = N at *
  obtain ⟨n, hnn⟩ : ∃ n, part.length = n := ⟨_, rfl⟩
  rw [hnn] at HP HBAD HTW HST HEND HO HF hl ⊢
  clear hnn hNE
  go_enter Try.func62, Try.ntmps62
  go_wp2_with (first
    | (go_at_call 60; refine (HR.out _ HB.out).mono ?_; rintro e w1 ⟨rfl, hb1⟩; have HBQ := Lib.hid (HB.out.trans (hb1.mono HB.out.size)); have X3 := Lib.hid (bheap hb1 X0.out); clear hb1)
    | (at_make; refine wpList_make_one _ rfl (.tmp 27) (.tmp 27) 33 rfl 4 (.bool false) rfl 1 Try.underlying33 Try.info4 .i64 .i64 (N : Nat) (N : Nat) N rfl rfl rfl rfl (by omega) (by unfold maxLen; omega) ?_; intro w4 hh4 hb4 hlt4; have M0 := Lib.hid (show MkM w1 w4 (MK (part.take 0)) from ⟨hb4, by rw [T0.out, bools_replicate]; simpa using hh4⟩); clear hb4 hh4 hlt4))
  go_loopg [12] n (fun fu c wr => ∃ k : Nat, k + fu = n ∧ c = .int .i64 k ∧ Hid (OkP N (part.take k)) ∧ Hid (MkM w1 wr (MK (part.take k))))
  case atStart => exact ⟨0, by omega, rfl, K0, M0⟩
  case round =>
    clear M0 K0
    obtain ⟨k, hk, rfl, HK, HM⟩ := hrel
    by_cases hlt : k < n
    · have z1 : (k : Int) < (n : Int) := by omega
      obtain ⟨b1, o1, rfl, d1⟩ := HP.out k hlt
      have d1 := bkeep (HBQ.out.trans (HM.out.below.mono HBQ.out.size)) d1
      by_cases h0 : part.getD k 0 < 0
      · have E := Lib.hid (HBAD.out k hlt (by omega))
        clear HBAD HTW HST
        generalize part.getD k 0 = x at *
        go_wp2_with fail
        go_ret
        exact ⟨by rw [E.out]; rfl, HBQ.out.trans (HM.out.below.mono HBQ.out.size)⟩
      by_cases h1 : (N : Int) ≤ part.getD k 0
      · have E := Lib.hid (HBAD.out k hlt (by omega))
        clear HBAD HTW HST
        generalize part.getD k 0 = x at *
        go_wp2_with fail
        go_ret
        exact ⟨by rw [E.out]; rfl, HBQ.out.trans (HM.out.below.mono HBQ.out.size)⟩
      obtain ⟨q, hq⟩ : ∃ q : Nat, part.getD k 0 = (q : Int) := ⟨(part.getD k 0).toNat, by omega⟩
      have hqN : q < N := by omega
      have TW := Lib.hid (HTW.out k q hlt hq hqN)
      have STP := Lib.hid (HST.out k q hlt hq hqN HK.out)
      rw [hq] at d1 h0 h1
      have z2 : (q : Int) < (N : Int) := by omega
      have d2 := HM.out.cell (q := q) (by rw [HML.out]; exact hqN)
      have d3 := HM.out.free q
      clear HBAD HTW HST hq
      cases hx : (MK (part.take k)).getD q false
      · rw [hx] at d2
        have E := Lib.hid (STP.out hx)
        have HM2 := Lib.hid ((HM.out.set q true).same E.out.2)
        clear hx TW STP
        go_wp2_with fail
        go_roundg (n - (k + 1))
        case measure => omega
        case rel => exact ⟨k + 1, by omega, by simp, Lib.hid E.out.1, HM2⟩
      · rw [hx] at d2
        have E := Lib.hid (TW.out hx)
        clear hx TW STP
        go_wp2_with fail
        go_ret
        exact ⟨by rw [E.out]; rfl, HBQ.out.trans (HM.out.below.mono HBQ.out.size)⟩
    · obtain rfl : k = n := by omega
      have HBW := Lib.hid (HBQ.out.trans (HM.out.below.mono HBQ.out.size))
      have HIN := Lib.hid (HWI.out _ HBW.out _ _ (boolsAt_block HM.out.blk (HML.out _).symm N))
      have E := Lib.hid (HEND.out HK.out)
      have HF := Lib.hid (HF.out (HO.out HK.out))
      have X5 := Lib.hid (bheap HM.out.below X3.out)
      have c0 := cell_of_block X5.out 0 _ rfl
      have c1 := cell_of_block X5.out 1 _ rfl
      have c2 := cell_of_block X5.out 2 _ rfl
      clear HEND HBAD HTW HST
      by_cases hr : (WN (MK (part.take k))).length = 1
      · have hr2 : (((WN (MK (part.take k))).length : Int) == 1) = true := by simp [hr]
        go_wp2_with (first
          | (go_at_call 49; refine HIN.out.mono ?_; rintro e w5 ⟨rv, rfl, ⟨ra, rc, rfl, -⟩, hb5⟩; have HB5 := Lib.hid (HBW.out.trans (hb5.mono HBW.out.size)); have X6 := Lib.hid (bheap hb5 X5.out); have e0 := cell_of_block X6.out 0 _ rfl; have e1 := cell_of_block X6.out 1 _ rfl; have e2 := cell_of_block X6.out 2 _ rfl; clear hb5)
          | (go_at_call 92; refine (HF.out _ HB5.out).mono ?_; rintro e w6 ⟨rfl, hb6⟩; have HB6 := Lib.hid (HB5.out.trans (hb6.mono HB5.out.size)); clear hb6))
        go_ret
        exact ⟨by rw [E.out]; simp [hr], HB6.out⟩
      · have hr2 : (((WN (MK (part.take k))).length : Int) == 1) = false := by
          have : ((WN (MK (part.take k))).length : Int) ≠ 1 := by omega
          simp [this]
        go_wp2_with (go_at_call 49; refine HIN.out.mono ?_; rintro e w5 ⟨rv, rfl, ⟨ra, rc, rfl, -⟩, hb5⟩; have HB5 := Lib.hid (HBW.out.trans (hb5.mono HBW.out.size)); clear hb5)
        go_ret
        exact ⟨by rw [E.out]; simp [hr], HB5.out⟩
set_option maxRecDepth 100000 in
set_option maxHeartbeats 16000000 in
theorem good_1 (v u pv : Value) (g : Gr) (en : List (List Bool)) (ag : Int) (part : List Int) (w : World) (h : GraphAt w v g) (hu : BRowsAt w u en) (hp : IntsAt w pv part) (hl : part.length ≤ 1000000) (hn : nodesN g ≤ 100000) :
    Calls Try.prog 61 #[v, u, .int .i64 ag, .int .i64 1, pv] w fun e w' => e = .returned (.bool (goodB g en ag 1 part)) ∧ Below w.heap.size w w' := by
  obtain ⟨sa, aa, ta, sc, ac, tc, rfl, -⟩ := h.var
  have hb := balloc w (.cells #[.slice sa g.S.length sc, .slice aa g.A.length ac, .slice ta g.T.length tc] 26)
  have HB := Lib.hid hb
  have X0 := Lib.hid (heap_alloc_new w (.cells #[.slice sa g.S.length sc, .slice aa g.A.length ac, .slice ta g.T.length tc] 26))
  have HR := Lib.hid (fun (w' : World) (hb : Below w.heap.size w w') => rt_ok _ u g en ag w' (h.below hb) (hu.below hb))
  cases hr : rtB g en ag
  · have E : goodB g en ag 1 part = false := goodB_rt hr
    rw [hr] at HR
    rw [E]
    clear h hb hu hr E
    go_enter Try.func61, Try.ntmps61
    go_wp2_with (first
      | (go_at_call 90; refine (mode_weak _).mono ?_; rintro e w2 ⟨rfl, hb2⟩; unfold modeV; have HB1 := Lib.hid (HB.out.trans (hb2.mono HB.out.size)); have X2 := Lib.hid (bheap (balloc _ (.cells #[.func (.func 108) #[] #[]] 91)) (bheap hb2 X0.out)); have M2 := Lib.hid (heap_alloc_new w2 (.cells #[.func (.func 108) #[] #[]] 91)); have HB2 := Lib.hid (HB1.out.trans ((balloc w2 (.cells #[.func (.func 108) #[] #[]] 91)).mono HB1.out.size)); have c0 := cell_of_block X2.out 0 _ rfl; have c1 := cell_of_block X2.out 1 _ rfl; have c2 := cell_of_block X2.out 2 _ rfl; clear hb2)
      | (go_at_call 89; refine (HR.out _ HB2.out).mono ?_; rintro e w3 ⟨rfl, hb3⟩; have HB3 := Lib.hid (HB2.out.trans (hb3.mono HB2.out.size)); clear hb3))
    go_ret
    exact ⟨rfl, HB3.out⟩
  have hRT := rtB_rt hr
  obtain ⟨A, rfl, hA, hrows⟩ := hRT.nat
  rw [hr] at HR
  have hlen := hRT.len
  have hNE : nodesN g = en.length := by omega
  have HBAD : Hid (∀ k, k < part.length → ¬ (0 ≤ part.getD k 0 ∧ part.getD k 0 < (nodesN g : Int)) → goodB g en (A : Nat) 1 part = false) := Lib.hid (fun k hk hx => goodB_not fun q => okp_bad hk hx q.2.1)
  have HTW : Hid (∀ k q : Nat, k < part.length → part.getD k 0 = (q : Int) → q < nodesN g → (maskL (nodesN g) (part.take k)).getD q false = true → goodB g en (A : Nat) 1 part = false) := Lib.hid (fun k q hk hq hqn hx => goodB_not fun z => okp_twice hk hq hqn hx z.2.1)
  have HST : Hid (∀ k q : Nat, k < part.length → part.getD k 0 = (q : Int) → q < nodesN g → OkP (nodesN g) (part.take k) → (maskL (nodesN g) (part.take k)).getD q false = false → OkP (nodesN g) (part.take (k + 1)) ∧ (maskL (nodesN g) (part.take k)).set q true = maskL (nodesN g) (part.take (k + 1))) := Lib.hid (fun k q hk hq hqn ho hx => ⟨okp_step hk ho hq hqn hx, mask_step hk hq⟩)
  have HEND : Hid (OkP (nodesN g) (part.take part.length) → goodB g en (A : Nat) 1 part = (decide ((withinI g (maskL (nodesN g) (part.take part.length))).length = 1) && fairB g en spW A part)) := Lib.hid (fun ho => by
    rw [List.take_length] at ho ⊢
    exact goodB_1 hRT ho)
  have K0 : Hid (OkP (nodesN g) (part.take 0)) := Lib.hid (okp_nil _)
  have HML : Hid (∀ p, (maskL (nodesN g) p).length = nodesN g) := Lib.hid (maskL_len _)
  have T0 : Hid (maskL (nodesN g) (part.take 0) = List.replicate (nodesN g) false) := Lib.hid (mask_nil _)
  have HWI := Lib.hid (fun (w' : World) (hb : Below w.heap.size w w') (mv : Value) (p : List Int) (hk : BoolsAt w' mv (maskL (nodesN g) p)) => withinF_ok _ mv g _ w' (h.below hb) hk (by rw [maskL_len]; omega))
  have HF := Lib.hid (fun (ho : ∀ x ∈ part, 0 ≤ x ∧ x < (en.length : Int)) (w' : World) (hb : Below w.heap.size w w') (tv : Value) (ht : TabV (.agg #[.slice sa g.S.length sc, .slice aa g.A.length ac, .slice ta g.T.length tc]) u A tv) => fair_ok sp_weak _ u pv tv g en A part w' ht (h.below hb) (hu.below hb) (hp.below hb) hA hrows ho (by omega) hl hRT.wf)
  have HO : Hid (OkP (nodesN g) (part.take part.length) → ∀ x ∈ part, 0 ≤ x ∧ x < (en.length : Int)) := Lib.hid (fun ho x hx => by
    rw [List.take_length] at ho
    obtain ⟨i, rfl, hi⟩ := ho.2 x hx
    omega)
  obtain ⟨ua, uc, rfl, -⟩ := hu
  obtain ⟨pa, pc, rfl, hpc⟩ := hp
  have HP := Lib.hid hpc
  have hNl : nodesN g ≤ 100000 := hn
  clear h hb hr hRT hlen hrows hpc hn
  rw [← hNE] at *
  generalize goodB g en (A : Nat) 1 part = GB at *
  generalize fairB g en spW A part = FB at *
  generalize withinI g = WN at *
  generalize maskL (nodesN g) = MK at *
  generalize nodesN g = N at *
  obtain ⟨n, hnn⟩ : ∃ n, part.length = n := ⟨_, rfl⟩
  rw [hnn] at HP HBAD HTW HST HEND HO HF hl ⊢
  clear hnn hNE
  go_enter Try.func61, Try.ntmps61
  go_wp2_with (first
    | (go_at_call 90; refine (mode_weak _).mono ?_; rintro e w2 ⟨rfl, hb2⟩; unfold modeV; have HB1 := Lib.hid (HB.out.trans (hb2.mono HB.out.size)); have X2 := Lib.hid (bheap (balloc _ (.cells #[.func (.func 108) #[] #[]] 91)) (bheap hb2 X0.out)); have M2 := Lib.hid (heap_alloc_new w2 (.cells #[.func (.func 108) #[] #[]] 91)); have HB2 := Lib.hid (HB1.out.trans ((balloc w2 (.cells #[.func (.func 108) #[] #[]] 91)).mono HB1.out.size)); have c0 := cell_of_block X2.out 0 _ rfl; have c1 := cell_of_block X2.out 1 _ rfl; have c2 := cell_of_block X2.out 2 _ rfl; clear hb2)
    | (go_at_call 89; refine (HR.out _ HB2.out).mono ?_; rintro e w3 ⟨rfl, hb3⟩; have HBQ := Lib.hid (HB2.out.trans (hb3.mono HB2.out.size)); have X3 := Lib.hid (bheap hb3 X2.out); have M3 := Lib.hid (bheap hb3 M2.out); clear hb3)
    | (at_make; refine wpList_make_one _ rfl (.tmp 31) (.tmp 31) 33 rfl 4 (.bool false) rfl 1 Try.underlying33 Try.info4 .i64 .i64 (N : Nat) (N : Nat) N rfl rfl rfl rfl (by omega) (by unfold maxLen; omega) ?_; intro w4 hh4 hb4 hlt4; have M0 := Lib.hid (show MkM w3 w4 (MK (part.take 0)) from ⟨hb4, by rw [T0.out, bools_replicate]; simpa using hh4⟩); clear hb4 hh4 hlt4))
  clear c0 c1 c2
  go_loopg [35] n (fun fu c wr => ∃ k : Nat, k + fu = n ∧ c = .int .i64 k ∧ Hid (OkP N (part.take k)) ∧ Hid (MkM w3 wr (MK (part.take k))))
  case atStart => exact ⟨0, by omega, rfl, K0, M0⟩
  case round =>
    clear M0 K0
    obtain ⟨k, hk, rfl, HK, HM⟩ := hrel
    by_cases hlt : k < n
    · have z1 : (k : Int) < (n : Int) := by omega
      obtain ⟨b1, o1, rfl, d1⟩ := HP.out k hlt
      have d1 := bkeep (HBQ.out.trans (HM.out.below.mono HBQ.out.size)) d1
      by_cases h0 : part.getD k 0 < 0
      · have E := Lib.hid (HBAD.out k hlt (by omega))
        clear HBAD HTW HST
        generalize part.getD k 0 = x at *
        go_wp2_with fail
        go_ret
        exact ⟨by rw [E.out]; rfl, HBQ.out.trans (HM.out.below.mono HBQ.out.size)⟩
      by_cases h1 : (N : Int) ≤ part.getD k 0
      · have E := Lib.hid (HBAD.out k hlt (by omega))
        clear HBAD HTW HST
        generalize part.getD k 0 = x at *
        go_wp2_with fail
        go_ret
        exact ⟨by rw [E.out]; rfl, HBQ.out.trans (HM.out.below.mono HBQ.out.size)⟩
      obtain ⟨q, hq⟩ : ∃ q : Nat, part.getD k 0 = (q : Int) := ⟨(part.getD k 0).toNat, by omega⟩
      have hqN : q < N := by omega
      have TW := Lib.hid (HTW.out k q hlt hq hqN)
      have STP := Lib.hid (HST.out k q hlt hq hqN HK.out)
      rw [hq] at d1 h0 h1
      have z2 : (q : Int) < (N : Int) := by omega
      have d2 := HM.out.cell (q := q) (by rw [HML.out]; exact hqN)
      have d3 := HM.out.free q
      clear HBAD HTW HST hq
      cases hx : (MK (part.take k)).getD q false
      · rw [hx] at d2
        have E := Lib.hid (STP.out hx)
        have HM2 := Lib.hid ((HM.out.set q true).same E.out.2)
        clear hx TW STP
        go_wp2_with fail
        go_roundg (n - (k + 1))
        case measure => omega
        case rel => exact ⟨k + 1, by omega, by simp, Lib.hid E.out.1, HM2⟩
      · rw [hx] at d2
        have E := Lib.hid (TW.out hx)
        clear hx TW STP
        go_wp2_with fail
        go_ret
        exact ⟨by rw [E.out]; rfl, HBQ.out.trans (HM.out.below.mono HBQ.out.size)⟩
    · obtain rfl : k = n := by omega
      have HBW := Lib.hid (HBQ.out.trans (HM.out.below.mono HBQ.out.size))
      have HIN := Lib.hid (HWI.out _ HBW.out _ _ (boolsAt_block HM.out.blk (HML.out _).symm N))
      have E := Lib.hid (HEND.out HK.out)
      have HF := Lib.hid (HF.out (HO.out HK.out))
      have X5 := Lib.hid (bheap HM.out.below X3.out)
      have c0 := cell_of_block X5.out 0 _ rfl
      have c1 := cell_of_block X5.out 1 _ rfl
      have c2 := cell_of_block X5.out 2 _ rfl
      have M5 := Lib.hid (bheap HM.out.below M3.out)
      clear HEND HBAD HTW HST
      by_cases hr : (WN (MK (part.take k))).length = 1
      · have hr2 : (((WN (MK (part.take k))).length : Int) == 1) = true := by simp [hr]
        go_wp2_with (first
          | (go_at_call 48; refine HIN.out.mono ?_; rintro e w5 ⟨rv, rfl, ⟨ra, rc, rfl, -⟩, hb5⟩; have HB5 := Lib.hid (HBW.out.trans (hb5.mono HBW.out.size)); have X6 := Lib.hid (bheap hb5 X5.out); have e0 := cell_of_block X6.out 0 _ rfl; have e1 := cell_of_block X6.out 1 _ rfl; have e2 := cell_of_block X6.out 2 _ rfl; have e3 := cell_of_block (bheap hb5 M5.out) 0 _ rfl; clear hb5)
          | (go_at_call 91; refine (HF.out _ HB5.out _ ⟨_, _, _, rfl, rfl⟩).mono ?_; rintro e w6 ⟨rfl, hb6⟩; have HB6 := Lib.hid (HB5.out.trans (hb6.mono HB5.out.size)); clear hb6))
        go_ret
        exact ⟨by rw [E.out]; simp [hr], HB6.out⟩
      · have hr2 : (((WN (MK (part.take k))).length : Int) == 1) = false := by
          have : ((WN (MK (part.take k))).length : Int) ≠ 1 := by omega
          simp [this]
        go_wp2_with (go_at_call 48; refine HIN.out.mono ?_; rintro e w5 ⟨rv, rfl, ⟨ra, rc, rfl, -⟩, hb5⟩; have HB5 := Lib.hid (HBW.out.trans (hb5.mono HBW.out.size)); clear hb5)
        go_ret
        exact ⟨by rw [E.out]; simp [hr], HB5.out⟩
set_option maxRecDepth 100000 in
set_option maxHeartbeats 16000000 in
theorem good_2 (v u pv : Value) (g : Gr) (en : List (List Bool)) (ag : Int) (part : List Int) (w : World) (h : GraphAt w v g) (hu : BRowsAt w u en) (hp : IntsAt w pv part) (hl : part.length ≤ 1000000) (hn : nodesN g ≤ 100000) :
    Calls Try.prog 61 #[v, u, .int .i64 ag, .int .i64 2, pv] w fun e w' => e = .returned (.bool (goodB g en ag 2 part)) ∧ Below w.heap.size w w' := by
  obtain ⟨sa, aa, ta, sc, ac, tc, rfl, -⟩ := h.var
  have hb := balloc w (.cells #[.slice sa g.S.length sc, .slice aa g.A.length ac, .slice ta g.T.length tc] 26)
  have HB := Lib.hid hb
  have X0 := Lib.hid (heap_alloc_new w (.cells #[.slice sa g.S.length sc, .slice aa g.A.length ac, .slice ta g.T.length tc] 26))
  have HR := Lib.hid (fun (w' : World) (hb : Below w.heap.size w w') => rt_ok _ u g en ag w' (h.below hb) (hu.below hb))
  cases hr : rtB g en ag
  · have E : goodB g en ag 2 part = false := goodB_rt hr
    rw [hr] at HR
    rw [E]
    clear h hb hu hr E
    go_enter Try.func61, Try.ntmps61
    go_wp2_with (first
      | (go_at_call 90; refine (mode_strong _).mono ?_; rintro e w2 ⟨rfl, hb2⟩; unfold modeV; have HB1 := Lib.hid (HB.out.trans (hb2.mono HB.out.size)); have X2 := Lib.hid (bheap (balloc _ (.cells #[.func (.func 109) #[] #[]] 91)) (bheap hb2 X0.out)); have M2 := Lib.hid (heap_alloc_new w2 (.cells #[.func (.func 109) #[] #[]] 91)); have HB2 := Lib.hid (HB1.out.trans ((balloc w2 (.cells #[.func (.func 109) #[] #[]] 91)).mono HB1.out.size)); have c0 := cell_of_block X2.out 0 _ rfl; have c1 := cell_of_block X2.out 1 _ rfl; have c2 := cell_of_block X2.out 2 _ rfl; clear hb2)
      | (go_at_call 89; refine (HR.out _ HB2.out).mono ?_; rintro e w3 ⟨rfl, hb3⟩; have HB3 := Lib.hid (HB2.out.trans (hb3.mono HB2.out.size)); clear hb3))
    go_ret
    exact ⟨rfl, HB3.out⟩
  have hRT := rtB_rt hr
  obtain ⟨A, rfl, hA, hrows⟩ := hRT.nat
  rw [hr] at HR
  have hlen := hRT.len
  have hNE : nodesN g = en.length := by omega
  have HBAD : Hid (∀ k, k < part.length → ¬ (0 ≤ part.getD k 0 ∧ part.getD k 0 < (nodesN g : Int)) → goodB g en (A : Nat) 2 part = false) := Lib.hid (fun k hk hx => goodB_not fun q => okp_bad hk hx q.2.1)
  have HTW : Hid (∀ k q : Nat, k < part.length → part.getD k 0 = (q : Int) → q < nodesN g → (maskL (nodesN g) (part.take k)).getD q false = true → goodB g en (A : Nat) 2 part = false) := Lib.hid (fun k q hk hq hqn hx => goodB_not fun z => okp_twice hk hq hqn hx z.2.1)
  have HST : Hid (∀ k q : Nat, k < part.length → part.getD k 0 = (q : Int) → q < nodesN g → OkP (nodesN g) (part.take k) → (maskL (nodesN g) (part.take k)).getD q false = false → OkP (nodesN g) (part.take (k + 1)) ∧ (maskL (nodesN g) (part.take k)).set q true = maskL (nodesN g) (part.take (k + 1))) := Lib.hid (fun k q hk hq hqn ho hx => ⟨okp_step hk ho hq hqn hx, mask_step hk hq⟩)
  have HEND : Hid (OkP (nodesN g) (part.take part.length) → goodB g en (A : Nat) 2 part = (decide ((withinI g (maskL (nodesN g) (part.take part.length))).length = 1) && fairB g en spS A part)) := Lib.hid (fun ho => by
    rw [List.take_length] at ho ⊢
    exact goodB_2 hRT ho)
  have K0 : Hid (OkP (nodesN g) (part.take 0)) := Lib.hid (okp_nil _)
  have HML : Hid (∀ p, (maskL (nodesN g) p).length = nodesN g) := Lib.hid (maskL_len _)
  have T0 : Hid (maskL (nodesN g) (part.take 0) = List.replicate (nodesN g) false) := Lib.hid (mask_nil _)
  have HWI := Lib.hid (fun (w' : World) (hb : Below w.heap.size w w') (mv : Value) (p : List Int) (hk : BoolsAt w' mv (maskL (nodesN g) p)) => withinF_ok _ mv g _ w' (h.below hb) hk (by rw [maskL_len]; omega))
  have HF := Lib.hid (fun (ho : ∀ x ∈ part, 0 ≤ x ∧ x < (en.length : Int)) (w' : World) (hb : Below w.heap.size w w') (tv : Value) (ht : TabV (.agg #[.slice sa g.S.length sc, .slice aa g.A.length ac, .slice ta g.T.length tc]) u A tv) => fair_ok sp_strong _ u pv tv g en A part w' ht (h.below hb) (hu.below hb) (hp.below hb) hA hrows ho (by omega) hl hRT.wf)
  have HO : Hid (OkP (nodesN g) (part.take part.length) → ∀ x ∈ part, 0 ≤ x ∧ x < (en.length : Int)) := Lib.hid (fun ho x hx => by
    rw [List.take_length] at ho
    obtain ⟨i, rfl, hi⟩ := ho.2 x hx
    omega)
  obtain ⟨ua, uc, rfl, -⟩ := hu
  obtain ⟨pa, pc, rfl, hpc⟩ := hp
  have HP := Lib.hid hpc
  have hNl : nodesN g ≤ 100000 := hn
  clear h hb hr hRT hlen hrows hpc hn
  rw [← hNE] at *
  generalize goodB g en (A : Nat) 2 part = GB at *
  generalize fairB g en spS A part = FB at *
  generalize withinI g = WN at *
  generalize maskL (nodesN g) = MK at *
  generalize nodesN g = N at *
  obtain ⟨n, hnn⟩ : ∃ n, part.length = n := ⟨_, rfl⟩
  rw [hnn] at HP HBAD HTW HST HEND HO HF hl ⊢
  clear hnn hNE
  go_enter Try.func61, Try.ntmps61
  go_wp2_with (first
    | (go_at_call 90; refine (mode_strong _).mono ?_; rintro e w2 ⟨rfl, hb2⟩; unfold modeV; have HB1 := Lib.hid (HB.out.trans (hb2.mono HB.out.size)); have X2 := Lib.hid (bheap (balloc _ (.cells #[.func (.func 109) #[] #[]] 91)) (bheap hb2 X0.out)); have M2 := Lib.hid (heap_alloc_new w2 (.cells #[.func (.func 109) #[] #[]] 91)); have HB2 := Lib.hid (HB1.out.trans ((balloc w2 (.cells #[.func (.func 109) #[] #[]] 91)).mono HB1.out.size)); have c0 := cell_of_block X2.out 0 _ rfl; have c1 := cell_of_block X2.out 1 _ rfl; have c2 := cell_of_block X2.out 2 _ rfl; clear hb2)
    | (go_at_call 89; refine (HR.out _ HB2.out).mono ?_; rintro e w3 ⟨rfl, hb3⟩; have HBQ := Lib.hid (HB2.out.trans (hb3.mono HB2.out.size)); have X3 := Lib.hid (bheap hb3 X2.out); have M3 := Lib.hid (bheap hb3 M2.out); clear hb3)
    | (at_make; refine wpList_make_one _ rfl (.tmp 31) (.tmp 31) 33 rfl 4 (.bool false) rfl 1 Try.underlying33 Try.info4 .i64 .i64 (N : Nat) (N : Nat) N rfl rfl rfl rfl (by omega) (by unfold maxLen; omega) ?_; intro w4 hh4 hb4 hlt4; have M0 := Lib.hid (show MkM w3 w4 (MK (part.take 0)) from ⟨hb4, by rw [T0.out, bools_replicate]; simpa using hh4⟩); clear hb4 hh4 hlt4))
  clear c0 c1 c2
  go_loopg [35] n (fun fu c wr => ∃ k : Nat, k + fu = n ∧ c = .int .i64 k ∧ Hid (OkP N (part.take k)) ∧ Hid (MkM w3 wr (MK (part.take k))))
  case atStart => exact ⟨0, by omega, rfl, K0, M0⟩
  case round =>
    clear M0 K0
    obtain ⟨k, hk, rfl, HK, HM⟩ := hrel
    by_cases hlt : k < n
    · have z1 : (k : Int) < (n : Int) := by omega
      obtain ⟨b1, o1, rfl, d1⟩ := HP.out k hlt
      have d1 := bkeep (HBQ.out.trans (HM.out.below.mono HBQ.out.size)) d1
      by_cases h0 : part.getD k 0 < 0
      · have E := Lib.hid (HBAD.out k hlt (by omega))
        clear HBAD HTW HST
        generalize part.getD k 0 = x at *
        go_wp2_with fail
        go_ret
        exact ⟨by rw [E.out]; rfl, HBQ.out.trans (HM.out.below.mono HBQ.out.size)⟩
      by_cases h1 : (N : Int) ≤ part.getD k 0
      · have E := Lib.hid (HBAD.out k hlt (by omega))
        clear HBAD HTW HST
        generalize part.getD k 0 = x at *
        go_wp2_with fail
        go_ret
        exact ⟨by rw [E.out]; rfl, HBQ.out.trans (HM.out.below.mono HBQ.out.size)⟩
      obtain ⟨q, hq⟩ : ∃ q : Nat, part.getD k 0 = (q : Int) := ⟨(part.getD k 0).toNat, by omega⟩
      have hqN : q < N := by omega
      have TW := Lib.hid (HTW.out k q hlt hq hqN)
      have STP := Lib.hid (HST.out k q hlt hq hqN HK.out)
      rw [hq] at d1 h0 h1
      have z2 : (q : Int) < (N : Int) := by omega
      have d2 := HM.out.cell (q := q) (by rw [HML.out]; exact hqN)
      have d3 := HM.out.free q
      clear HBAD HTW HST hq
      cases hx : (MK (part.take k)).getD q false
      · rw [hx] at d2
        have E := Lib.hid (STP.out hx)
        have HM2 := Lib.hid ((HM.out.set q true).same E.out.2)
        clear hx TW STP
        go_wp2_with fail
        go_roundg (n - (k + 1))
        case measure => omega
        case rel => exact ⟨k + 1, by omega, by simp, Lib.hid E.out.1, HM2⟩
      · rw [hx] at d2
        have E := Lib.hid (TW.out hx)
        clear hx TW STP
        go_wp2_with fail
        go_ret
        exact ⟨by rw [E.out]; rfl, HBQ.out.trans (HM.out.below.mono HBQ.out.size)⟩
    · obtain rfl : k = n := by omega
      have HBW := Lib.hid (HBQ.out.trans (HM.out.below.mono HBQ.out.size))
      have HIN := Lib.hid (HWI.out _ HBW.out _ _ (boolsAt_block HM.out.blk (HML.out _).symm N))
      have E := Lib.hid (HEND.out HK.out)
      have HF := Lib.hid (HF.out (HO.out HK.out))
      have X5 := Lib.hid (bheap HM.out.below X3.out)
      have c0 := cell_of_block X5.out 0 _ rfl
      have c1 := cell_of_block X5.out 1 _ rfl
      have c2 := cell_of_block X5.out 2 _ rfl
      have M5 := Lib.hid (bheap HM.out.below M3.out)
      clear HEND HBAD HTW HST
      by_cases hr : (WN (MK (part.take k))).length = 1
      · have hr2 : (((WN (MK (part.take k))).length : Int) == 1) = true := by simp [hr]
        go_wp2_with (first
          | (go_at_call 48; refine HIN.out.mono ?_; rintro e w5 ⟨rv, rfl, ⟨ra, rc, rfl, -⟩, hb5⟩; have HB5 := Lib.hid (HBW.out.trans (hb5.mono HBW.out.size)); have X6 := Lib.hid (bheap hb5 X5.out); have e0 := cell_of_block X6.out 0 _ rfl; have e1 := cell_of_block X6.out 1 _ rfl; have e2 := cell_of_block X6.out 2 _ rfl; have e3 := cell_of_block (bheap hb5 M5.out) 0 _ rfl; clear hb5)
          | (go_at_call 91; refine (HF.out _ HB5.out _ ⟨_, _, _, rfl, rfl⟩).mono ?_; rintro e w6 ⟨rfl, hb6⟩; have HB6 := Lib.hid (HB5.out.trans (hb6.mono HB5.out.size)); clear hb6))
        go_ret
        exact ⟨by rw [E.out]; simp [hr], HB6.out⟩
      · have hr2 : (((WN (MK (part.take k))).length : Int) == 1) = false := by
          have : ((WN (MK (part.take k))).length : Int) ≠ 1 := by omega
          simp [this]
        go_wp2_with (go_at_call 48; refine HIN.out.mono ?_; rintro e w5 ⟨rv, rfl, ⟨ra, rc, rfl, -⟩, hb5⟩; have HB5 := Lib.hid (HBW.out.trans (hb5.mono HBW.out.size)); clear hb5)
        go_ret
        exact ⟨by rw [E.out]; simp [hr], HB5.out⟩
end Go.Proofs.Ytnlaonppgebpoaa

namespace Go.Proofs.Ytnlaonppgebpoaa
open Go.RowKit

set_option maxRecDepth 100000 in
set_option maxHeartbeats 4000000 in
theorem mode_none' (how : Int) (w : World) (h1 : how ≠ 1) (h2 : how ≠ 2) : Calls Try.prog 90 #[.int .i64 how] w fun e w' => e = .returned (.tuple #[.agg #[.nilFunc], .bool false]) ∧ Below w.heap.size w w' := by
  have n1 : (how == 1) = false := by simp [h1]
  have n2 : (how == 2) = false := by simp [h2]
  go_enter Try.func90, Try.ntmps90
  go_wp2_with fail
  refine bodyPost_ret (v := .tuple #[.agg #[.nilFunc], .bool false]) (by simp [results, Try.results90, go_sem]) rfl ?_
  exact ⟨rfl, balloc w _⟩
theorem good_0 (v u pv : Value) (g : Gr) (en : List (List Bool)) (ag how : Int) (part : List Int) (w : World) (h : GraphAt w v g) (hu : BRowsAt w u en) (hp : IntsAt w pv part) (h1 : how ≠ 1) (h2 : how ≠ 2) :
    Calls Try.prog 61 #[v, u, .int .i64 ag, .int .i64 how, pv] w fun e w' => e = .returned (.bool (goodB g en ag how part)) ∧ Below w.heap.size w w' := by
  rw [goodB_how h1 h2]
  obtain ⟨sa, aa, ta, sc, ac, tc, rfl, -⟩ := h.var
  have hb := balloc w (.cells #[.slice sa g.S.length sc, .slice aa g.A.length ac, .slice ta g.T.length tc] 26)
  have HB := Lib.hid hb
  have X0 := Lib.hid (heap_alloc_new w (.cells #[.slice sa g.S.length sc, .slice aa g.A.length ac, .slice ta g.T.length tc] 26))
  obtain ⟨ua, uc, rfl, -⟩ := hu
  obtain ⟨pa, pc, rfl, -⟩ := hp
  clear h hb
  go_enter Try.func61, Try.ntmps61
  go_wp2_with (go_at_call 90; refine (mode_none' _ _ h1 h2).mono ?_; rintro e w2 ⟨rfl, hb2⟩; have HB1 := Lib.hid (HB.out.trans (hb2.mono HB.out.size)); clear hb2)
  go_ret
  exact ⟨rfl, HB1.out.trans ((balloc w2 _).mono HB1.out.size)⟩
set_option maxRecDepth 100000 in
set_option maxHeartbeats 4000000 in
theorem rgood_0 (v u pv : Value) (g : Gr) (en : List (List Bool)) (ag how : Int) (part : List Int) (w : World) (h : GraphAt w v g) (hu : BRowsAt w u en) (hp : IntsAt w pv part) (h1 : how ≠ 1) (h2 : how ≠ 2) :
    Calls Try.prog 62 #[v, u, .int .i64 ag, .int .i64 how, pv] w fun e w' => e = .returned (.bool (goodB g en ag how part)) ∧ Below w.heap.size w w' := by
  rw [goodB_how h1 h2]
  obtain ⟨sa, aa, ta, sc, ac, tc, rfl, -⟩ := h.var
  have hb := balloc w (.cells #[.slice sa g.S.length sc, .slice aa g.A.length ac, .slice ta g.T.length tc] 26)
  have HB := Lib.hid hb
  have X0 := Lib.hid (heap_alloc_new w (.cells #[.slice sa g.S.length sc, .slice aa g.A.length ac, .slice ta g.T.length tc] 26))
  have HR := Lib.hid (fun (w' : World) (hb : Below w.heap.size w w') => rrt_ok _ u g en ag w' (h.below hb) (hu.below hb))
  have n1 : (how != 1) = true := by simp [bne, h1]
  have n2 : (how != 2) = true := by simp [bne, h2]
  generalize rtB g en ag = r at *
  obtain ⟨ua, uc, rfl, -⟩ := hu
  obtain ⟨pa, pc, rfl, -⟩ := hp
  clear h hb
  cases r
  all_goals
    go_enter Try.func62, Try.ntmps62
    go_wp2_with (go_at_call 60; refine (HR.out _ HB.out).mono ?_; rintro e w1 ⟨rfl, hb1⟩; have HB1 := Lib.hid (HB.out.trans (hb1.mono HB.out.size)); clear hb1)
    go_ret
    exact ⟨rfl, HB1.out⟩
theorem good_ok (v u pv : Value) (g : Gr) (en : List (List Bool)) (ag how : Int) (part : List Int) (w : World) (h : GraphAt w v g) (hu : BRowsAt w u en) (hp : IntsAt w pv part) (hl : part.length ≤ 1000000) (hn : nodesN g ≤ 100000) :
    Calls Try.prog 61 #[v, u, .int .i64 ag, .int .i64 how, pv] w fun e w' => e = .returned (.bool (goodB g en ag how part)) ∧ Below w.heap.size w w' := by
  by_cases h1 : how = 1
  · subst h1; exact good_1 v u pv g en ag part w h hu hp hl hn
  by_cases h2 : how = 2
  · subst h2; exact good_2 v u pv g en ag part w h hu hp hl hn
  exact good_0 v u pv g en ag how part w h hu hp h1 h2
theorem rgood_ok (v u pv : Value) (g : Gr) (en : List (List Bool)) (ag how : Int) (part : List Int) (w : World) (h : GraphAt w v g) (hu : BRowsAt w u en) (hp : IntsAt w pv part) (hl : part.length ≤ 1000000) (hn : nodesN g ≤ 100000) :
    Calls Try.prog 62 #[v, u, .int .i64 ag, .int .i64 how, pv] w fun e w' => e = .returned (.bool (goodB g en ag how part)) ∧ Below w.heap.size w w' := by
  by_cases h1 : how = 1
  · subst h1; exact rgood_1 v u pv g en ag part w h hu hp hl hn
  by_cases h2 : how = 2
  · subst h2; exact rgood_2 v u pv g en ag part w h hu hp hl hn
  exact rgood_0 v u pv g en ag how part w h hu hp h1 h2
end Go.Proofs.Ytnlaonppgebpoaa

namespace Go.Proofs.Ytnlaonppgebpoaa

theorem good_of_1 {g : Gr} {en : List (List Bool)} {ag : Int} (hR : RT g en ag) {p : List Int} (h : GoodP g en spW ag.toNat p) : goodB g en ag 1 p = true := goodB_iff.2 ⟨hR, ⟨h.nd, h.inn⟩, h.one, .inl ⟨rfl, h.fair⟩⟩
theorem good_of_2 {g : Gr} {en : List (List Bool)} {ag : Int} (hR : RT g en ag) {p : List Int} (h : GoodP g en spS ag.toNat p) : goodB g en ag 2 p = true := goodB_iff.2 ⟨hR, ⟨h.nd, h.inn⟩, h.one, .inr ⟨rfl, h.fair⟩⟩
theorem good_to_1 {g : Gr} {en : List (List Bool)} {ag : Int} {p : List Int} (h : goodB g en ag 1 p = true) : GoodP g en spW ag.toNat p := by
  obtain ⟨-, h1, h2, h3⟩ := goodB_iff.1 h
  exact ⟨h1.1, h1.2, h2, h3.elim (fun z => z.2) (fun z => absurd z.1 (by omega))⟩
theorem good_to_2 {g : Gr} {en : List (List Bool)} {ag : Int} {p : List Int} (h : goodB g en ag 2 p = true) : GoodP g en spS ag.toNat p := by
  obtain ⟨-, h1, h2, h3⟩ := goodB_iff.1 h
  exact ⟨h1.1, h1.2, h2, h3.elim (fun z => absurd z.1 (by omega)) (fun z => z.2)⟩
theorem goodp_len {g : Gr} {en : List (List Bool)} {sp : Nat → Nat → Bool} {A : Nat} {p : List Int} (h : GoodP g en sp A p) : p.length ≤ nodesN g := by
  have := nodup_len (b := (List.range (nodesN g)).map (fun k : Nat => (k : Int))) h.nd (fun x hx => by
    obtain ⟨i, rfl, hi⟩ := h.inn x hx
    exact List.mem_map.2 ⟨i, List.mem_range.2 hi, rfl⟩)
  simpa using this
theorem weakL_eq {g : Gr} {en : List (List Bool)} {ag : Int} (hR : RT g en ag) : weakL g en ag = firstF (fairB g en spW ag.toNat) (groupsI g) := by unfold weakL; rw [if_pos (rtB_yes hR)]
theorem strongL_eq {g : Gr} {en : List (List Bool)} {ag : Int} (hR : RT g en ag) : strongL g en ag = stR g en ag.toNat (nodesN g) (groupsI g) := by unfold strongL; rw [if_pos (rtB_yes hR)]
theorem weak_goodP {g : Gr} {en : List (List Bool)} {ag : Int} (hR : RT g en ag) (hn : g.S.length ≤ 100000) (hl : 0 < (weakL g en ag).length) : GoodP g en spW ag.toNat (weakL g en ag) := by
  rw [weakL_eq hR] at hl ⊢
  exact weak_good hR.right hn hl
theorem strong_goodP {g : Gr} {en : List (List Bool)} {ag : Int} (hR : RT g en ag) (hn : g.S.length ≤ 100000) (hl : 0 < (strongL g en ag).length) : GoodP g en spS ag.toNat (strongL g en ag) := by
  rw [strongL_eq hR, groups_within hR.right hn] at hl ⊢
  exact stR_good hR.right hn _ hl
theorem GoodP.weak {g : Gr} {en : List (List Bool)} {A : Nat} {p : List Int} (h : GoodP g en spS A p) : GoodP g en spW A p := ⟨h.nd, h.inn, h.one, strong_weak h.fair⟩
theorem weak_some {g : Gr} {en : List (List Bool)} {ag : Int} (hR : RT g en ag) (hn : g.S.length ≤ 100000) {p : List Int} (h : GoodP g en spW ag.toNat p) : 0 < (weakL g en ag).length := by
  rw [weakL_eq hR]
  exact weak_found hR.right hn h
theorem strong_some {g : Gr} {en : List (List Bool)} {ag : Int} (hR : RT g en ag) (hn : g.S.length ≤ 100000) {p : List Int} (h : GoodP g en spS ag.toNat p) : 0 < (strongL g en ag).length := by
  rw [strongL_eq hR]
  obtain ⟨r, hr, hs⟩ := part_group hR.right hn h.inn h.one
  have h2 := groupsI_row hr
  exact stR_found hR.right hn hR.len h (nodesN g) hr hs (fun x hx => by have := h2.2 x hx; have := hR.len; omega) h2.1
theorem weak_bits {g : Gr} {en : List (List Bool)} {ag : Int} (hR : RT g en ag) (hn : g.S.length ≤ 100000) (hl : 0 < (weakL g en ag).length) : ∃ bits, 0 < bits ∧ bits < 2 ^ nodesN g ∧ weakL g en ag = nodesL bits (nodesN g) := by
  rw [weakL_eq hR] at hl ⊢
  rcases firstF_mem (fairB g en spW ag.toNat) (groupsI g) with e | ⟨h1, -⟩
  · rw [e] at hl; simp at hl
  · generalize firstF (fairB g en spW ag.toNat) (groupsI g) = r at *
    rw [groups_within hR.right hn] at h1
    exact row_bits hR.right hn h1
theorem stR_row {g : Gr} {en : List (List Bool)} {A : Nat} : ∀ (n : Nat) {l : List Bool}, 0 < (stR g en A n (withinI g l)).length → ∃ l', stR g en A n (withinI g l) ∈ withinI g l'
  | 0, _, hp => by simp [stR] at hp
  | n + 1, l, hp => by
    have e : stR g en A (n + 1) (withinI g l) = pickR g en A (fun l => stR g en A n (withinI g (lessL g en A l))) (withinI g l) := rfl
    rw [e] at hp ⊢
    rcases pickR_mem (g := g) (en := en) (A := A) (SUB := fun l => stR g en A n (withinI g (lessL g en A l))) (rows := withinI g l) with h1 | ⟨h1, -⟩ | ⟨y, -, h2⟩
    · rw [h1] at hp; simp at hp
    · exact ⟨l, h1⟩
    · rw [h2] at hp ⊢
      exact stR_row n hp
theorem strong_bits {g : Gr} {en : List (List Bool)} {ag : Int} (hR : RT g en ag) (hn : g.S.length ≤ 100000) (hl : 0 < (strongL g en ag).length) : ∃ bits, 0 < bits ∧ bits < 2 ^ nodesN g ∧ strongL g en ag = nodesL bits (nodesN g) := by
  rw [strongL_eq hR, groups_within hR.right hn] at hl ⊢
  obtain ⟨l', h⟩ := stR_row _ hl
  exact row_bits hR.right hn h
/-- something is found just if some nodes are good -/
theorem find_bits {g : Gr} {en : List (List Bool)} {ag : Int} (hR : RT g en ag) (hn : g.S.length ≤ 100000) {how : Int} (hh : how = 1 ∨ how = 2) : 0 < (findL g en ag how).length ↔ ∃ bits, 0 < bits ∧ bits < 2 ^ nodesN g ∧ goodB g en ag how (nodesL bits (nodesN g)) = true := by
  rcases hh with rfl | rfl
  · rw [show findL g en ag 1 = weakL g en ag from if_pos rfl]
    constructor
    · intro hl
      obtain ⟨b, h1, h2, h3⟩ := weak_bits hR hn hl
      exact ⟨b, h1, h2, by rw [← h3]; exact good_of_1 hR (weak_goodP hR hn hl)⟩
    · rintro ⟨b, -, -, h⟩
      exact weak_some hR hn (good_to_1 h)
  · rw [show findL g en ag 2 = strongL g en ag from by unfold findL; rw [if_neg (by omega), if_pos rfl]]
    constructor
    · intro hl
      obtain ⟨b, h1, h2, h3⟩ := strong_bits hR hn hl
      exact ⟨b, h1, h2, by rw [← h3]; exact good_of_2 hR (strong_goodP hR hn hl)⟩
    · rintro ⟨b, -, -, h⟩
      exact strong_some hR hn (good_to_2 h)
theorem weakL_len {g : Gr} {en : List (List Bool)} {ag : Int} (hn : nodesN g ≤ 100000) : (weakL g en ag).length ≤ 1000000 := by
  unfold weakL
  split
  · rcases firstF_mem (fairB g en spW ag.toNat) (groupsI g) with e | ⟨h1, -⟩
    · rw [e]; simp
    · have := (groupsI_row h1).1; omega
  · simp
theorem strongL_len {g : Gr} {en : List (List Bool)} {ag : Int} (hS : g.S.length ≤ 100000) (hn : nodesN g ≤ 100000) : (strongL g en ag).length ≤ 1000000 := by
  by_cases hl : 0 < (strongL g en ag).length
  · cases hr : rtB g en ag
    · have : strongL g en ag = [] := by unfold strongL; rw [hr]; rfl
      rw [this]; simp
    · have := goodp_len (strong_goodP (rtB_rt hr) hS hl)
      omega
  · omega
theorem findL_len {g : Gr} {en : List (List Bool)} {ag how : Int} (hS : g.S.length ≤ 100000) (hn : nodesN g ≤ 100000) : (findL g en ag how).length ≤ 1000000 := by
  unfold findL
  split
  · exact weakL_len hn
  · split
    · exact strongL_len hS hn
    · simp
end Go.Proofs.Ytnlaonppgebpoaa

namespace Go.Proofs.Ytnlaonppgebpoaa

def k1 : List Ed := [(0, 0, 0)]
def k2 : List Ed := [(0, 0, 1), (1, 0, 0)]
def kG1 : Gr := csr 1 k1
def kG2 : Gr := csr 2 k2
def tBoth : List (List Bool) := [[true, true]]
def tOne : List (List Bool) := [[true, false]]
def tNow : List (List Bool) := [[true, true], [true, false]]
theorem kB1 : buildG 1 k1 = kG1 := rfl
theorem kB2 : buildG 2 k2 = kG2 := rfl
theorem kN1 : nodesN kG1 = 1 := by decide
theorem kN2 : nodesN kG2 = 2 := by decide
theorem kA1 : allL kG1 = k1 := by decide
theorem kA2 : allL kG2 = k2 := by decide
theorem kR1 : Rt kG1 := csr_right (by decide)
theorem kR2 : Rt kG2 := csr_right (by decide)
theorem kP1 : partsI kG1 = [0] := by
  have h : (cnS (fun _ _ => true) (nodesN kG1)).1 = partsL kG1 := by
    refine partsL_congr fun i k hi hk => ?_
    rw [kN1] at hi
    omega
  unfold partsI
  rw [← h, kN1]
  decide
theorem kP2 : partsI kG2 = [0, 0] := by
  have h : (cnS (fun _ _ => true) (nodesN kG2)).1 = partsL kG2 := by
    refine partsL_congr fun i k hi hk => ?_
    rw [kN2] at hi
    obtain ⟨rfl, rfl⟩ : i = 1 ∧ k = 0 := by omega
    refine ⟨fun _ => ⟨.one ⟨(1, 0, 0), by rw [kA2]; decide, rfl, rfl⟩, .one ⟨(0, 0, 1), by rw [kA2]; decide, rfl, rfl⟩⟩, fun _ => rfl⟩
  unfold partsI
  rw [← h, kN2]
  decide
theorem kGr1 : groupsI kG1 = [[0]] := by
  unfold groupsI
  rw [kP1]
  decide
theorem kGr2 : groupsI kG2 = [[0, 1]] := by
  unfold groupsI
  rw [kP2]
  decide
theorem kC1 : cycB kG1 [0] = true := by
  unfold cycB
  exact decide_eq_true ⟨(0, 0, 0), by rw [kA1]; decide, by decide, by decide⟩
theorem kC2 : cycB kG2 [0, 1] = true := by
  unfold cycB
  exact decide_eq_true ⟨(0, 0, 1), by rw [kA2]; decide, by decide, by decide⟩
theorem kC3 : cycB kG2 [1] = false := by
  unfold cycB
  refine decide_eq_false ?_
  rintro ⟨e, he, h1, h2⟩
  rw [kA2] at he
  simp only [k2, List.mem_cons, List.not_mem_nil, or_false] at he
  rcases he with rfl | rfl <;> simp at h1 h2
theorem kRT1 : RT kG1 tBoth 2 := ⟨kR1, by omega, by omega, by rw [kN1]; rfl, by decide, by rw [kA1]; decide⟩
theorem kRT2 : RT kG1 tOne 2 := ⟨kR1, by omega, by omega, by rw [kN1]; rfl, by decide, by rw [kA1]; decide⟩
theorem kRT3 : RT kG2 tNow 2 := ⟨kR2, by omega, by omega, by rw [kN2]; rfl, by decide, by rw [kA2]; decide⟩
theorem kF1 : fairB kG1 tBoth spW 2 [0] = false := by unfold fairB; rw [kC1]; decide
theorem kF2 : fairB kG1 tBoth spS 2 [0] = false := by unfold fairB; rw [kC1]; decide
theorem kF3 : fairB kG1 tOne spW 2 [0] = true := by unfold fairB; rw [kC1]; decide
theorem kF4 : fairB kG1 tOne spS 2 [0] = true := by unfold fairB; rw [kC1]; decide
theorem kF5 : fairB kG2 tNow spW 2 [0, 1] = true := by unfold fairB; rw [kC2]; decide
theorem kF6 : fairB kG2 tNow spS 2 [0, 1] = false := by unfold fairB; rw [kC2]; decide
theorem kW1 : weakL kG1 tBoth 2 = [] := by
  unfold weakL
  rw [if_pos (rtB_yes kRT1), kGr1]
  unfold firstF
  rw [List.find?_cons_of_neg (by rw [show ((2 : Int).toNat) = 2 from rfl, kF1]; simp)]
  rfl
theorem kW2 : weakL kG1 tOne 2 = [0] := by
  unfold weakL
  rw [if_pos (rtB_yes kRT2), kGr1]
  unfold firstF
  rw [List.find?_cons_of_pos (by exact kF3)]
  rfl
theorem kW3 : weakL kG2 tNow 2 = [0, 1] := by
  unfold weakL
  rw [if_pos (rtB_yes kRT3), kGr2]
  unfold firstF
  rw [List.find?_cons_of_pos (by exact kF5)]
  rfl
theorem kL1 : lessL kG1 tBoth 2 [0] = [false] := by decide
theorem kL2 : lessL kG2 tNow 2 [0, 1] = [false, true] := by decide
theorem kWi1 : withinI kG1 [false] = [] := by
  cases h : withinI kG1 [false] with
  | nil => rfl
  | cons r l =>
    exfalso
    obtain ⟨j, hj, hin, -⟩ := (within_rows kR1 (by decide)).1 (show r ∈ withinI kG1 [false] by rw [h]; simp)
    rw [kN1] at hj
    obtain rfl : j = 0 := by omega
    simp at hin
theorem kS1 : strongL kG1 tBoth 2 = [] := by
  unfold strongL
  rw [if_pos (rtB_yes kRT1), kGr1, kN1]
  show pickR kG1 tBoth 2 _ [[0]] = []
  rw [pickR_next kC1 kF2]
  · rfl
  · show ¬ 0 < (stR kG1 tBoth 2 0 _).length
    simp [stR]
theorem kS2 : strongL kG1 tOne 2 = [0] := by
  unfold strongL
  rw [if_pos (rtB_yes kRT2), kGr1, kN1]
  show pickR kG1 tOne 2 _ [[0]] = [0]
  rw [pickR_fair kC1 kF4]
theorem kWi2 : ∀ r ∈ withinI kG2 [false, true], cycB kG2 r = false := fun r hr => by
  cases hc : cycB kG2 r
  · rfl
  · exfalso
    have hm : ∀ x ∈ r, x ∈ ([1] : List Int) := fun x hx => by
      obtain ⟨i, rfl, hi, hin⟩ := (withinI_row hr).2.2 x hx
      have hi : i < 2 := hi
      have h01 : i = 0 ∨ i = 1 := by omega
      rcases h01 with rfl | rfl
      · simp at hin
      · simp
    have := cyc_more hm hc
    rw [kC3] at this
    cases this
theorem kS3 : strongL kG2 tNow 2 = [] := by
  unfold strongL
  rw [if_pos (rtB_yes kRT3), kGr2, kN2]
  show pickR kG2 tNow 2 (fun l => stR kG2 tNow 2 1 (withinI kG2 (lessL kG2 tNow 2 l))) [[0, 1]] = []
  rw [pickR_next kC2 kF6]
  · rfl
  · show ¬ 0 < (pickR kG2 tNow 2 _ (withinI kG2 (lessL kG2 tNow 2 [0, 1]))).length
    rw [kL2]
    have h := kWi2
    generalize withinI kG2 [false, true] = rows at h
    have : ∀ (S : List Int → List Int) (rows : List (List Int)), (∀ r ∈ rows, cycB kG2 r = false) → pickR kG2 tNow 2 S rows = [] := fun S rows h => by
      induction rows with
      | nil => rfl
      | cons r rows ih => rw [pickR_skip (h r (List.mem_cons_self ..))]; exact ih fun x hx => h x (List.mem_cons_of_mem _ hx)
    rw [this _ _ h]
    simp
theorem kFi1 : findL kG2 tNow 2 1 = [0, 1] := by unfold findL; rw [if_pos rfl, kW3]
theorem kFi2 : findL kG2 tNow 2 2 = [] := by unfold findL; rw [if_neg (by decide), if_pos rfl, kS3]
theorem kAc1 : actB kG2 [0, 1] 0 = true := by decide
theorem kAc2 : actB kG2 [0] 0 = false := by decide
theorem kOk : OkP (nodesN kG2) [0, 1] := by
  rw [kN2]
  refine ⟨by decide, fun x hx => ?_⟩
  simp only [List.mem_cons, List.not_mem_nil, or_false] at hx
  rcases hx with rfl | rfl
  · exact ⟨0, rfl, by omega⟩
  · exact ⟨1, rfl, by omega⟩
theorem kOne : (withinI kG2 (maskL (nodesN kG2) [0, 1])).length = 1 := row_con kR2 (by decide) (l := List.replicate (nodesN kG2) true) (by rw [← groups_within kR2 (by decide), kGr2]; simp)
theorem kGo1 : goodB kG2 tNow 2 1 [0, 1] = true := goodB_iff.2 ⟨kRT3, kOk, kOne, .inl ⟨rfl, kF5⟩⟩
theorem kGo2 : goodB kG2 tNow 2 2 [0, 1] = false := goodB_not fun q => q.2.2.2.elim (fun z => absurd z.1 (by omega)) (fun z => by have h := z.2; rw [show ((2 : Int).toNat) = 2 from rfl, kF6] at h; cases h)
theorem kGo3 : goodB kG2 tNow 2 3 [0, 1] = false := goodB_how (by omega) (by omega)
end Go.Proofs.Ytnlaonppgebpoaa

namespace Go.Proofs.Ytnlaonppgebpoaa
open Go.RowKit

theorem brows_one {w : World} {b r0 : Nat} {x y : Bool} (h0 : w.heap[r0]? = some (.cells (bools [x, y]) 4 (0, 0))) (h : w.heap[b]? = some (.cells #[.slice (some ⟨r0, 0, none⟩) 2 2] 33 (0, 0))) : BRowsAt w (.slice (some ⟨b, 0, none⟩) 1 1) [[x, y]] :=
  ⟨_, 1, rfl, fun j hj => by
    obtain rfl : j = 0 := by simp at hj; omega
    exact ⟨_, _, _, rfl, cell_of_block h 0 _ rfl, boolsAt_block h0 rfl 2⟩⟩
theorem brows_two {w : World} {b r0 r1 : Nat} {x y z t : Bool} (h0 : w.heap[r0]? = some (.cells (bools [x, y]) 4 (0, 0))) (h1 : w.heap[r1]? = some (.cells (bools [z, t]) 4 (0, 0))) (h : w.heap[b]? = some (.cells #[.slice (some ⟨r0, 0, none⟩) 2 2, .slice (some ⟨r1, 0, none⟩) 2 2] 33 (0, 0))) :
    BRowsAt w (.slice (some ⟨b, 0, none⟩) 2 2) [[x, y], [z, t]] :=
  ⟨_, 2, rfl, fun j hj => by
    have hj' : j = 0 ∨ j = 1 := by simp at hj; omega
    rcases hj' with rfl | rfl
    · exact ⟨_, _, _, rfl, cell_of_block h 0 _ rfl, boolsAt_block h0 rfl 2⟩
    · exact ⟨_, _, _, rfl, cell_of_block h 1 _ rfl, boolsAt_block h1 rfl 2⟩⟩
/-- two graphs, three tables -/
structure K8 (w wr : World) (b1 : Nat) (c1 : Array Value) (G1 : Gr) (b2 : Nat) (c2 : Array Value) (G2 : Gr) (u5 u6 u7 : Value) : Prop where
  a : KnSt w wr b1 c1 G1
  b : KnSt w wr b2 c2 G2
  t5 : BRowsAt wr u5 tBoth
  t6 : BRowsAt wr u6 tOne
  t7 : BRowsAt wr u7 tNow
theorem K8.more {w wr w' : World} {b1 b2 : Nat} {c1 c2 : Array Value} {G1 G2 : Gr} {u5 u6 u7 : Value} (h : K8 w wr b1 c1 G1 b2 c2 G2 u5 u6 u7) (hb : Below wr.heap.size wr w') : K8 w w' b1 c1 G1 b2 c2 G2 u5 u6 u7 :=
  ⟨h.a.more hb, h.b.more hb, h.t5.below hb, h.t6.below hb, h.t7.below hb⟩
theorem k8_start {w w2 : World} {b1 : Nat} {c1 cs : Array Value} {G1 G2 : Gr} (h : KnSt w w2 b1 c1 G1) (hg : GraphAt w2 (.agg cs) G2) :
    K8 w ((((((((w2.alloc (.cells cs 26)).alloc (.cells #[.bool true, .bool true] 4)).alloc (.cells #[.slice (some ⟨w2.heap.size + 1, 0, none⟩) 2 2] 33)).alloc (.cells #[.bool true, .bool false] 4)).alloc (.cells #[.slice (some ⟨w2.heap.size + 1 + 1 + 1, 0, none⟩) 2 2] 33)).alloc (.cells #[.bool true, .bool true] 4)).alloc (.cells #[.bool true, .bool false] 4)).alloc (.cells #[.slice (some ⟨w2.heap.size + 1 + 1 + 1 + 1 + 1, 0, none⟩) 2 2, .slice (some ⟨w2.heap.size + 1 + 1 + 1 + 1 + 1 + 1, 0, none⟩) 2 2] 33)) b1 c1 G1 w2.heap.size cs G2 (Value.slice (some ⟨w2.heap.size + 1 + 1, 0, none⟩) 1 1) (Value.slice (some ⟨w2.heap.size + 1 + 1 + 1 + 1, 0, none⟩) 1 1) (Value.slice (some ⟨w2.heap.size + 1 + 1 + 1 + 1 + 1 + 1 + 1, 0, none⟩) 2 2) := by
  have k0 := h.more (balloc w2 (.cells cs 26))
  have g0 := KnSt.intro h.below hg
  have x1 := heap_alloc_at (w2.alloc (.cells cs 26)) (.cells #[.bool true, .bool true] 4) (w2.heap.size + 1) (by simp)
  have m1 := balloc (w2.alloc (.cells cs 26)) (.cells #[.bool true, .bool true] 4)
  have x2 := heap_alloc_at ((w2.alloc (.cells cs 26)).alloc (.cells #[.bool true, .bool true] 4)) (.cells #[.slice (some ⟨w2.heap.size + 1, 0, none⟩) 2 2] 33) (w2.heap.size + 1 + 1) (by simp)
  have m2 := balloc ((w2.alloc (.cells cs 26)).alloc (.cells #[.bool true, .bool true] 4)) (.cells #[.slice (some ⟨w2.heap.size + 1, 0, none⟩) 2 2] 33)
  have x3 := heap_alloc_at (((w2.alloc (.cells cs 26)).alloc (.cells #[.bool true, .bool true] 4)).alloc (.cells #[.slice (some ⟨w2.heap.size + 1, 0, none⟩) 2 2] 33)) (.cells #[.bool true, .bool false] 4) (w2.heap.size + 1 + 1 + 1) (by simp)
  have m3 := balloc (((w2.alloc (.cells cs 26)).alloc (.cells #[.bool true, .bool true] 4)).alloc (.cells #[.slice (some ⟨w2.heap.size + 1, 0, none⟩) 2 2] 33)) (.cells #[.bool true, .bool false] 4)
  have x4 := heap_alloc_at ((((w2.alloc (.cells cs 26)).alloc (.cells #[.bool true, .bool true] 4)).alloc (.cells #[.slice (some ⟨w2.heap.size + 1, 0, none⟩) 2 2] 33)).alloc (.cells #[.bool true, .bool false] 4)) (.cells #[.slice (some ⟨w2.heap.size + 1 + 1 + 1, 0, none⟩) 2 2] 33) (w2.heap.size + 1 + 1 + 1 + 1) (by simp)
  have m4 := balloc ((((w2.alloc (.cells cs 26)).alloc (.cells #[.bool true, .bool true] 4)).alloc (.cells #[.slice (some ⟨w2.heap.size + 1, 0, none⟩) 2 2] 33)).alloc (.cells #[.bool true, .bool false] 4)) (.cells #[.slice (some ⟨w2.heap.size + 1 + 1 + 1, 0, none⟩) 2 2] 33)
  have x5 := heap_alloc_at (((((w2.alloc (.cells cs 26)).alloc (.cells #[.bool true, .bool true] 4)).alloc (.cells #[.slice (some ⟨w2.heap.size + 1, 0, none⟩) 2 2] 33)).alloc (.cells #[.bool true, .bool false] 4)).alloc (.cells #[.slice (some ⟨w2.heap.size + 1 + 1 + 1, 0, none⟩) 2 2] 33)) (.cells #[.bool true, .bool true] 4) (w2.heap.size + 1 + 1 + 1 + 1 + 1) (by simp)
  have m5 := balloc (((((w2.alloc (.cells cs 26)).alloc (.cells #[.bool true, .bool true] 4)).alloc (.cells #[.slice (some ⟨w2.heap.size + 1, 0, none⟩) 2 2] 33)).alloc (.cells #[.bool true, .bool false] 4)).alloc (.cells #[.slice (some ⟨w2.heap.size + 1 + 1 + 1, 0, none⟩) 2 2] 33)) (.cells #[.bool true, .bool true] 4)
  have x6 := heap_alloc_at ((((((w2.alloc (.cells cs 26)).alloc (.cells #[.bool true, .bool true] 4)).alloc (.cells #[.slice (some ⟨w2.heap.size + 1, 0, none⟩) 2 2] 33)).alloc (.cells #[.bool true, .bool false] 4)).alloc (.cells #[.slice (some ⟨w2.heap.size + 1 + 1 + 1, 0, none⟩) 2 2] 33)).alloc (.cells #[.bool true, .bool true] 4)) (.cells #[.bool true, .bool false] 4) (w2.heap.size + 1 + 1 + 1 + 1 + 1 + 1) (by simp)
  have m6 := balloc ((((((w2.alloc (.cells cs 26)).alloc (.cells #[.bool true, .bool true] 4)).alloc (.cells #[.slice (some ⟨w2.heap.size + 1, 0, none⟩) 2 2] 33)).alloc (.cells #[.bool true, .bool false] 4)).alloc (.cells #[.slice (some ⟨w2.heap.size + 1 + 1 + 1, 0, none⟩) 2 2] 33)).alloc (.cells #[.bool true, .bool true] 4)) (.cells #[.bool true, .bool false] 4)
  have x7 := heap_alloc_at (((((((w2.alloc (.cells cs 26)).alloc (.cells #[.bool true, .bool true] 4)).alloc (.cells #[.slice (some ⟨w2.heap.size + 1, 0, none⟩) 2 2] 33)).alloc (.cells #[.bool true, .bool false] 4)).alloc (.cells #[.slice (some ⟨w2.heap.size + 1 + 1 + 1, 0, none⟩) 2 2] 33)).alloc (.cells #[.bool true, .bool true] 4)).alloc (.cells #[.bool true, .bool false] 4)) (.cells #[.slice (some ⟨w2.heap.size + 1 + 1 + 1 + 1 + 1, 0, none⟩) 2 2, .slice (some ⟨w2.heap.size + 1 + 1 + 1 + 1 + 1 + 1, 0, none⟩) 2 2] 33) (w2.heap.size + 1 + 1 + 1 + 1 + 1 + 1 + 1) (by simp)
  have m7 := balloc (((((((w2.alloc (.cells cs 26)).alloc (.cells #[.bool true, .bool true] 4)).alloc (.cells #[.slice (some ⟨w2.heap.size + 1, 0, none⟩) 2 2] 33)).alloc (.cells #[.bool true, .bool false] 4)).alloc (.cells #[.slice (some ⟨w2.heap.size + 1 + 1 + 1, 0, none⟩) 2 2] 33)).alloc (.cells #[.bool true, .bool true] 4)).alloc (.cells #[.bool true, .bool false] 4)) (.cells #[.slice (some ⟨w2.heap.size + 1 + 1 + 1 + 1 + 1, 0, none⟩) 2 2, .slice (some ⟨w2.heap.size + 1 + 1 + 1 + 1 + 1 + 1, 0, none⟩) 2 2] 33)
  exact ⟨(((((((k0.more m1).more m2).more m3).more m4).more m5).more m6).more m7), (((((((g0.more m1).more m2).more m3).more m4).more m5).more m6).more m7), brows_one (bheap m7 (bheap m6 (bheap m5 (bheap m4 (bheap m3 (bheap m2 x1)))))) (bheap m7 (bheap m6 (bheap m5 (bheap m4 (bheap m3 x2))))), brows_one (bheap m7 (bheap m6 (bheap m5 (bheap m4 x3)))) (bheap m7 (bheap m6 (bheap m5 x4))), brows_two (bheap m7 (bheap m6 x5)) (bheap m7 x6) x7⟩
set_option maxRecDepth 100000 in
set_option maxHeartbeats 32000000 in
theorem known18 (w : World) : Calls Try.prog 53 #[] w fun e w' => e = .returned (.bool true) ∧ Below w.heap.size w w' := by
  have E1 := Lib.hid (edgesAt_block (b := w.heap.size) (l := k1) (heap_alloc_new w _) rfl 1)
  have hB1 := Lib.hid (rbuild_any 1 _ k1 _ E1.out (by decide))
  have HB2 : Hid (∀ (w' : World) (v : Value), EdgesAt w' v k2 → Calls Try.prog 22 #[.int .i64 2, v] w' fun e w2 => ∃ v', e = .returned (.tuple #[v', .int .i64 0]) ∧ GraphAt w2 v' kG2 ∧ Below w'.heap.size w' w2) := Lib.hid (fun w' v h => rbuild_any 2 _ k2 _ h (by decide))
  rw [kB1, show buildE 1 k1 = 0 by decide] at hB1
  have HW1 : Hid (∀ (w' : World) (v u : Value), GraphAt w' v kG1 → BRowsAt w' u tBoth → Calls Try.prog 54 #[v, u, .int .i64 2] w' (IntsBack w' [])) := Lib.hid (fun w' v u h hu => by have := weak_ok v u kG1 tBoth 2 w' h hu (by rw [kN1]; omega); rwa [kW1] at this)
  have HW2 : Hid (∀ (w' : World) (v u : Value), GraphAt w' v kG1 → BRowsAt w' u tOne → Calls Try.prog 54 #[v, u, .int .i64 2] w' (IntsBack w' [0])) := Lib.hid (fun w' v u h hu => by have := weak_ok v u kG1 tOne 2 w' h hu (by rw [kN1]; omega); rwa [kW2] at this)
  have HS1 : Hid (∀ (w' : World) (v u : Value), GraphAt w' v kG1 → BRowsAt w' u tBoth → Calls Try.prog 56 #[v, u, .int .i64 2] w' (IntsBack w' [])) := Lib.hid (fun w' v u h hu => by have := strong_ok v u kG1 tBoth 2 w' h hu (by rw [kN1]; omega); rwa [kS1] at this)
  have HS2 : Hid (∀ (w' : World) (v u : Value), GraphAt w' v kG1 → BRowsAt w' u tOne → Calls Try.prog 56 #[v, u, .int .i64 2] w' (IntsBack w' [0])) := Lib.hid (fun w' v u h hu => by have := strong_ok v u kG1 tOne 2 w' h hu (by rw [kN1]; omega); rwa [kS2] at this)
  have HF1 : Hid (∀ (w' : World) (v u : Value), GraphAt w' v kG2 → BRowsAt w' u tNow → Calls Try.prog 58 #[v, u, .int .i64 2, .int .i64 1] w' (IntsBack w' [0, 1])) := Lib.hid (fun w' v u h hu => by have := find_ok v u kG2 tNow 2 1 w' h hu (by rw [kN2]; omega); rwa [kFi1] at this)
  have HF2 : Hid (∀ (w' : World) (v u : Value), GraphAt w' v kG2 → BRowsAt w' u tNow → Calls Try.prog 58 #[v, u, .int .i64 2, .int .i64 2] w' (IntsBack w' [])) := Lib.hid (fun w' v u h hu => by have := find_ok v u kG2 tNow 2 2 w' h hu (by rw [kN2]; omega); rwa [kFi2] at this)
  have HA1 : Hid (∀ (w' : World) (v p : Value), GraphAt w' v kG2 → IntsAt w' p [0, 1] → Calls Try.prog 63 #[v, p, .int .i64 0] w' fun e w2 => e = .returned (.bool true) ∧ Below w'.heap.size w' w2) := Lib.hid (fun w' v p h hp => by have := acts_ok v p kG2 [0, 1] 0 w' h hp (by decide +kernel) (by decide) (by rw [kA2]; decide +kernel) (by decide +kernel); rwa [kAc1] at this)
  have HA2 : Hid (∀ (w' : World) (v p : Value), GraphAt w' v kG2 → IntsAt w' p [0] → Calls Try.prog 63 #[v, p, .int .i64 0] w' fun e w2 => e = .returned (.bool false) ∧ Below w'.heap.size w' w2) := Lib.hid (fun w' v p h hp => by have := acts_ok v p kG2 [0] 0 w' h hp (by decide +kernel) (by decide) (by rw [kA2]; decide +kernel) (by decide +kernel); rwa [kAc2] at this)
  have HO1 : Hid (∀ (w' : World) (v u p : Value), GraphAt w' v kG2 → BRowsAt w' u tNow → IntsAt w' p [0, 1] → Calls Try.prog 61 #[v, u, .int .i64 2, .int .i64 1, p] w' fun e w2 => e = .returned (.bool true) ∧ Below w'.heap.size w' w2) := Lib.hid (fun w' v u p h hu hp => by have := good_1 v u p kG2 tNow 2 [0, 1] w' h hu hp (by decide) (by rw [kN2]; omega); rwa [kGo1] at this)
  have HO2 : Hid (∀ (w' : World) (v u p : Value), GraphAt w' v kG2 → BRowsAt w' u tNow → IntsAt w' p [0, 1] → Calls Try.prog 61 #[v, u, .int .i64 2, .int .i64 2, p] w' fun e w2 => e = .returned (.bool false) ∧ Below w'.heap.size w' w2) := Lib.hid (fun w' v u p h hu hp => by have := good_2 v u p kG2 tNow 2 [0, 1] w' h hu hp (by decide) (by rw [kN2]; omega); rwa [kGo2] at this)
  have HO3 : Hid (∀ (w' : World) (v u p : Value), GraphAt w' v kG2 → BRowsAt w' u tNow → IntsAt w' p [0, 1] → Calls Try.prog 61 #[v, u, .int .i64 2, .int .i64 3, p] w' fun e w2 => e = .returned (.bool false) ∧ Below w'.heap.size w' w2) := Lib.hid (fun w' v u p h hu hp => by have := good_0 v u p kG2 tNow 2 3 [0, 1] w' h hu hp (by omega) (by omega); rwa [kGo3] at this)
  clear E1
  generalize kG1 = G1 at *
  generalize kG2 = G2 at *
  go_enter Try.func53, Try.ntmps53
  go_wp2_with (first
    | (go_at_call 61; refine (HO3.out _ _ _ _ (S16.out.more (balloc _ _)).b.g1 (S16.out.more (balloc _ _)).t7 (intsAt_block (xs := [0, 1]) (heap_alloc_new w16 _) rfl 2)).mono ?_; rintro e w17 ⟨rfl, hb⟩; have S17 := Lib.hid ((S16.out.more (balloc _ _)).more hb); clear c0 c1 c2 d0 d1 d2; have c0 := cell_of_block S17.out.a.l1 0 _ rfl; have c1 := cell_of_block S17.out.a.l1 1 _ rfl; have c2 := cell_of_block S17.out.a.l1 2 _ rfl; have d0 := cell_of_block S17.out.b.l1 0 _ rfl; have d1 := cell_of_block S17.out.b.l1 1 _ rfl; have d2 := cell_of_block S17.out.b.l1 2 _ rfl; clear hb)
    | (go_at_call 61; refine (HO2.out _ _ _ _ (S15.out.more (balloc _ _)).b.g1 (S15.out.more (balloc _ _)).t7 (intsAt_block (xs := [0, 1]) (heap_alloc_new w15 _) rfl 2)).mono ?_; rintro e w16 ⟨rfl, hb⟩; have S16 := Lib.hid ((S15.out.more (balloc _ _)).more hb); clear c0 c1 c2 d0 d1 d2; have c0 := cell_of_block S16.out.a.l1 0 _ rfl; have c1 := cell_of_block S16.out.a.l1 1 _ rfl; have c2 := cell_of_block S16.out.a.l1 2 _ rfl; have d0 := cell_of_block S16.out.b.l1 0 _ rfl; have d1 := cell_of_block S16.out.b.l1 1 _ rfl; have d2 := cell_of_block S16.out.b.l1 2 _ rfl; clear hb)
    | (go_at_call 61; refine (HO1.out _ _ _ _ (S14.out.more (balloc _ _)).b.g1 (S14.out.more (balloc _ _)).t7 (intsAt_block (xs := [0, 1]) (heap_alloc_new w14 _) rfl 2)).mono ?_; rintro e w15 ⟨rfl, hb⟩; have S15 := Lib.hid ((S14.out.more (balloc _ _)).more hb); clear c0 c1 c2 d0 d1 d2; have c0 := cell_of_block S15.out.a.l1 0 _ rfl; have c1 := cell_of_block S15.out.a.l1 1 _ rfl; have c2 := cell_of_block S15.out.a.l1 2 _ rfl; have d0 := cell_of_block S15.out.b.l1 0 _ rfl; have d1 := cell_of_block S15.out.b.l1 1 _ rfl; have d2 := cell_of_block S15.out.b.l1 2 _ rfl; clear hb)
    | (go_at_call 63; refine (HA2.out _ _ _ (S13.out.more (balloc _ _)).b.g1 (intsAt_block (xs := [0]) (heap_alloc_new w13 _) rfl 1)).mono ?_; rintro e w14 ⟨rfl, hb⟩; have S14 := Lib.hid ((S13.out.more (balloc _ _)).more hb); clear c0 c1 c2 d0 d1 d2; have c0 := cell_of_block S14.out.a.l1 0 _ rfl; have c1 := cell_of_block S14.out.a.l1 1 _ rfl; have c2 := cell_of_block S14.out.a.l1 2 _ rfl; have d0 := cell_of_block S14.out.b.l1 0 _ rfl; have d1 := cell_of_block S14.out.b.l1 1 _ rfl; have d2 := cell_of_block S14.out.b.l1 2 _ rfl; clear hb)
    | (go_at_call 63; refine (HA1.out _ _ _ (S12.out.more (balloc _ _)).b.g1 (intsAt_block (xs := [0, 1]) (heap_alloc_new w12 _) rfl 2)).mono ?_; rintro e w13 ⟨rfl, hb⟩; have S13 := Lib.hid ((S12.out.more (balloc _ _)).more hb); clear c0 c1 c2 d0 d1 d2; have c0 := cell_of_block S13.out.a.l1 0 _ rfl; have c1 := cell_of_block S13.out.a.l1 1 _ rfl; have c2 := cell_of_block S13.out.a.l1 2 _ rfl; have d0 := cell_of_block S13.out.b.l1 0 _ rfl; have d1 := cell_of_block S13.out.b.l1 1 _ rfl; have d2 := cell_of_block S13.out.b.l1 2 _ rfl; clear hb)
    | (go_at_call 58; refine (HF2.out _ _ _ S11.out.b.g1 S11.out.t7).mono ?_; rintro e w12 ⟨rv, rfl, hi, hb⟩; have S12 := Lib.hid (S11.out.more hb); obtain ⟨ra12, rc12, rfl, -⟩ := id hi; have I12 := Lib.hid hi; clear hi; clear c0 c1 c2 d0 d1 d2; have c0 := cell_of_block S12.out.a.l1 0 _ rfl; have c1 := cell_of_block S12.out.a.l1 1 _ rfl; have c2 := cell_of_block S12.out.a.l1 2 _ rfl; have d0 := cell_of_block S12.out.b.l1 0 _ rfl; have d1 := cell_of_block S12.out.b.l1 1 _ rfl; have d2 := cell_of_block S12.out.b.l1 2 _ rfl; clear hb)
    | (go_at_call 42; refine (ints_same _ _ [0, 1] _ (I10.out.below (balloc _ _)) (intsAt_block (xs := [0, 1]) (heap_alloc_new w10 _) rfl 2) (by decide)).mono ?_; rintro e w11 ⟨rfl, hb⟩; have S11 := Lib.hid ((S10.out.more (balloc _ _)).more hb); clear c0 c1 c2 d0 d1 d2; have c0 := cell_of_block S11.out.a.l1 0 _ rfl; have c1 := cell_of_block S11.out.a.l1 1 _ rfl; have c2 := cell_of_block S11.out.a.l1 2 _ rfl; have d0 := cell_of_block S11.out.b.l1 0 _ rfl; have d1 := cell_of_block S11.out.b.l1 1 _ rfl; have d2 := cell_of_block S11.out.b.l1 2 _ rfl; clear hb)
    | (go_at_call 58; refine (HF1.out _ _ _ S9.out.b.g1 S9.out.t7).mono ?_; rintro e w10 ⟨rv, rfl, hi, hb⟩; have S10 := Lib.hid (S9.out.more hb); obtain ⟨ra10, rc10, rfl, -⟩ := id hi; have I10 := Lib.hid hi; clear hi; clear c0 c1 c2 d0 d1 d2; have c0 := cell_of_block S10.out.a.l1 0 _ rfl; have c1 := cell_of_block S10.out.a.l1 1 _ rfl; have c2 := cell_of_block S10.out.a.l1 2 _ rfl; have d0 := cell_of_block S10.out.b.l1 0 _ rfl; have d1 := cell_of_block S10.out.b.l1 1 _ rfl; have d2 := cell_of_block S10.out.b.l1 2 _ rfl; clear hb)
    | (go_at_call 42; refine (ints_same _ _ [0] _ (I8.out.below (balloc _ _)) (intsAt_block (xs := [0]) (heap_alloc_new w8 _) rfl 1) (by decide)).mono ?_; rintro e w9 ⟨rfl, hb⟩; have S9 := Lib.hid ((S8.out.more (balloc _ _)).more hb); clear c0 c1 c2 d0 d1 d2; have c0 := cell_of_block S9.out.a.l1 0 _ rfl; have c1 := cell_of_block S9.out.a.l1 1 _ rfl; have c2 := cell_of_block S9.out.a.l1 2 _ rfl; have d0 := cell_of_block S9.out.b.l1 0 _ rfl; have d1 := cell_of_block S9.out.b.l1 1 _ rfl; have d2 := cell_of_block S9.out.b.l1 2 _ rfl; clear hb)
    | (go_at_call 56; refine (HS2.out _ _ _ S7.out.a.g1 S7.out.t6).mono ?_; rintro e w8 ⟨rv, rfl, hi, hb⟩; have S8 := Lib.hid (S7.out.more hb); obtain ⟨ra8, rc8, rfl, -⟩ := id hi; have I8 := Lib.hid hi; clear hi; clear c0 c1 c2 d0 d1 d2; have c0 := cell_of_block S8.out.a.l1 0 _ rfl; have c1 := cell_of_block S8.out.a.l1 1 _ rfl; have c2 := cell_of_block S8.out.a.l1 2 _ rfl; have d0 := cell_of_block S8.out.b.l1 0 _ rfl; have d1 := cell_of_block S8.out.b.l1 1 _ rfl; have d2 := cell_of_block S8.out.b.l1 2 _ rfl; clear hb)
    | (go_at_call 42; refine (ints_same _ _ [0] _ (I6.out.below (balloc _ _)) (intsAt_block (xs := [0]) (heap_alloc_new w6 _) rfl 1) (by decide)).mono ?_; rintro e w7 ⟨rfl, hb⟩; have S7 := Lib.hid ((S6.out.more (balloc _ _)).more hb); clear c0 c1 c2 d0 d1 d2; have c0 := cell_of_block S7.out.a.l1 0 _ rfl; have c1 := cell_of_block S7.out.a.l1 1 _ rfl; have c2 := cell_of_block S7.out.a.l1 2 _ rfl; have d0 := cell_of_block S7.out.b.l1 0 _ rfl; have d1 := cell_of_block S7.out.b.l1 1 _ rfl; have d2 := cell_of_block S7.out.b.l1 2 _ rfl; clear hb)
    | (go_at_call 54; refine (HW2.out _ _ _ S5.out.a.g1 S5.out.t6).mono ?_; rintro e w6 ⟨rv, rfl, hi, hb⟩; have S6 := Lib.hid (S5.out.more hb); obtain ⟨ra6, rc6, rfl, -⟩ := id hi; have I6 := Lib.hid hi; clear hi; clear c0 c1 c2 d0 d1 d2; have c0 := cell_of_block S6.out.a.l1 0 _ rfl; have c1 := cell_of_block S6.out.a.l1 1 _ rfl; have c2 := cell_of_block S6.out.a.l1 2 _ rfl; have d0 := cell_of_block S6.out.b.l1 0 _ rfl; have d1 := cell_of_block S6.out.b.l1 1 _ rfl; have d2 := cell_of_block S6.out.b.l1 2 _ rfl; clear hb)
    | (go_at_call 56; refine (HS1.out _ _ _ S4.out.a.g1 S4.out.t5).mono ?_; rintro e w5 ⟨rv, rfl, hi, hb⟩; have S5 := Lib.hid (S4.out.more hb); obtain ⟨ra5, rc5, rfl, -⟩ := id hi; have I5 := Lib.hid hi; clear hi; clear c0 c1 c2 d0 d1 d2; have c0 := cell_of_block S5.out.a.l1 0 _ rfl; have c1 := cell_of_block S5.out.a.l1 1 _ rfl; have c2 := cell_of_block S5.out.a.l1 2 _ rfl; have d0 := cell_of_block S5.out.b.l1 0 _ rfl; have d1 := cell_of_block S5.out.b.l1 1 _ rfl; have d2 := cell_of_block S5.out.b.l1 2 _ rfl; clear hb)
    | (go_at_call 54; refine (HW1.out _ _ _ S3.out.a.g1 S3.out.t5).mono ?_; rintro e w4 ⟨rv, rfl, hi, hb⟩; have S4 := Lib.hid (S3.out.more hb); obtain ⟨ra4, rc4, rfl, -⟩ := id hi; have I4 := Lib.hid hi; clear hi; clear c0 c1 c2 d0 d1 d2; have c0 := cell_of_block S4.out.a.l1 0 _ rfl; have c1 := cell_of_block S4.out.a.l1 1 _ rfl; have c2 := cell_of_block S4.out.a.l1 2 _ rfl; have d0 := cell_of_block S4.out.b.l1 0 _ rfl; have d1 := cell_of_block S4.out.b.l1 1 _ rfl; have d2 := cell_of_block S4.out.b.l1 2 _ rfl; clear hb)
    | (go_at_call_of 22 (Value.int .i64 2); refine (HB2.out _ _ (edgesAt_block (l := k2) (heap_alloc_at (w1.alloc (.cells #[.slice s1 G1.S.length p1, .slice a1 G1.A.length q1, .slice t1 G1.T.length r1] 26)) _ (w1.heap.size + 1) (by simp)) rfl 2)).mono ?_; rintro e w2 ⟨v2, rfl, hG, hb⟩; obtain ⟨s2, a2, t2, p2, q2, r2, rfl, -⟩ := hG.var; have S3 := Lib.hid (k8_start ((S1.out.more (balloc _ _)).more hb) hG); have c0 := cell_of_block S3.out.a.l1 0 _ rfl; have c1 := cell_of_block S3.out.a.l1 1 _ rfl; have c2 := cell_of_block S3.out.a.l1 2 _ rfl; have d0 := cell_of_block S3.out.b.l1 0 _ rfl; have d1 := cell_of_block S3.out.b.l1 1 _ rfl; have d2 := cell_of_block S3.out.b.l1 2 _ rfl; clear hb hG)
    | (go_at_call_of 22 (Value.int .i64 1); refine hB1.out.mono ?_; rintro e w1 ⟨v1, rfl, hG, hb⟩; obtain ⟨s1, a1, t1, p1, q1, r1, rfl, -⟩ := hG.var; have S1 := Lib.hid (KnSt.intro ((balloc w _).trans (hb.mono (by simp))) hG); clear hb hG))
  go_ret
  exact ⟨rfl, S17.out.a.below⟩
end Go.Proofs.Ytnlaonppgebpoaa
