/-
  The reference's Reach.
-/
import Derived.Test.YtnlaonppgebpoaaReachW
import Derived.Test.YtnlaonppgebpoaaROut
namespace Go.Proofs.Ytnlaonppgebpoaa
open Go.RowKit

/-- one pass over the edges: behind r of them -/
structure Pass (n : Nat) (fr : List Int) (l : List Ed) (out0 : List Bool) (r : Nat) (out : List Bool) (more : Bool) : Prop where
  len : out.length = n
  sound : ∀ i, i < n → out.getD i false = true → Rch l (Src n fr) (i : Int)
  keep : ∀ j, out0.getD j false = true → out.getD j false = true
  still : more = false → out = out0 ∧ ∀ j, j < r → out.getD (l.getD j (0, 0, 0)).1.toNat false = true → out.getD (l.getD j (0, 0, 0)).2.2.toNat false = true
  less : more = true → falses out < falses out0
theorem Pass.skip {n : Nat} {fr : List Int} {l : List Ed} {out0 out : List Bool} {r : Nat} {more : Bool} (h : Pass n fr l out0 r out more) (hno : out.getD (l.getD r (0, 0, 0)).1.toNat false = true → out.getD (l.getD r (0, 0, 0)).2.2.toNat false = true) : Pass n fr l out0 (r + 1) out more := by
  refine ⟨h.len, h.sound, h.keep, fun hm => ⟨(h.still hm).1, fun j hj => ?_⟩, h.less⟩
  by_cases e : j = r
  · subst e; exact hno
  · exact (h.still hm).2 j (by omega)
theorem Pass.hit {n : Nat} {fr : List Int} {l : List Ed} {out0 out : List Bool} {r : Nat} {more : Bool} (h : Pass n fr l out0 r out more) (hr : r < l.length) {f t : Nat} (hf : (l.getD r (0, 0, 0)).1 = (f : Int)) (ht : (l.getD r (0, 0, 0)).2.2 = (t : Int)) (hfn : f < n) (htn : t < n)
    (h1 : out.getD f false = true) (h2 : out.getD t false = false) : Pass n fr l out0 (r + 1) (out.set t true) true := by
  have hfs := falses_set out t (by rw [h.len]; exact htn) h2
  refine ⟨by simp [h.len], ?_, ?_, fun hm => (by cases hm), fun _ => ?_⟩
  · intro i hi he
    rw [getD_set _ _ _ _ _ (by rw [h.len]; exact htn)] at he
    by_cases e : i = t
    · subst e
      rw [← ht]
      refine .step (by rw [hf]; exact h.sound f hfn h1) ?_
      rw [show l.getD r (0, 0, 0) = l[r] by simp [List.getD, hr]]
      exact List.getElem_mem hr
    · rw [if_neg e] at he; exact h.sound i hi he
  · intro j hj
    rw [getD_set _ _ _ _ _ (by rw [h.len]; exact htn)]
    by_cases e : j = t
    · rw [if_pos e]
    · rw [if_neg e]; exact h.keep j hj
  · cases more
    · rw [← (h.still rfl).1]; omega
    · have := h.less rfl; omega
theorem pass_start {n : Nat} {fr : List Int} {l : List Ed} {out : List Bool} (hl : out.length = n) (hs : ∀ i, i < n → out.getD i false = true → Rch l (Src n fr) (i : Int)) : Pass n fr l out 0 out false :=
  ⟨hl, hs, fun _ h => h, fun _ => ⟨rfl, fun j hj => by omega⟩, fun h => by cases h⟩
theorem pass_end {g : Gr} (hR : Rt g) {fr : List Int} {out0 out : List Bool} (h : Pass (nodesN g) fr (allL g) out0 (allL g).length out false) (hb : ∀ i : Nat, i < nodesN g → (i : Int) ∈ fr → out0.getD i false = true) : out = reachL g fr := by
  refine reachL_eq hR fr out h.len h.sound (fun i hi hm => h.keep i (hb i hi hm)) ?_
  intro e he
  obtain ⟨j, hj, rfl⟩ := List.mem_iff_getElem.1 he
  have := (h.still rfl).2 j hj
  rwa [show (allL g).getD j (0, 0, 0) = (allL g)[j] by simp [List.getD, hj]] at this

/-- the marks of the sources -/
def markS (n : Nat) (out : List Bool) (i : Int) : List Bool := if 0 ≤ i ∧ i < (n : Int) then out.set i.toNat true else out
def markAll (n : Nat) (fr : List Int) : List Bool := fr.foldl (markS n) (List.replicate n false)
theorem markAll_snoc (n : Nat) (fr : List Int) (i : Int) : markAll n (fr ++ [i]) = markS n (markAll n fr) i := by simp [markAll]
theorem markAll_take (n : Nat) (fr : List Int) (k : Nat) (hk : k < fr.length) : markAll n (fr.take (k + 1)) = markS n (markAll n (fr.take k)) (fr.getD k 0) := by
  rw [List.take_add_one, List.getElem?_eq_getElem hk, Option.toList_some, markAll_snoc]
  simp [List.getD, hk]
theorem markS_len (n : Nat) (out : List Bool) (i : Int) : (markS n out i).length = out.length := by unfold markS; split <;> simp
theorem markAll_spec (n : Nat) : ∀ fr : List Int, (markAll n fr).length = n ∧ ∀ i, i < n → ((markAll n fr).getD i false = true ↔ (i : Int) ∈ fr) := by
  suffices h : ∀ (fr : List Int) (out : List Bool), out.length = n → (fr.foldl (markS n) out).length = n ∧ ∀ i, i < n → ((fr.foldl (markS n) out).getD i false = true ↔ out.getD i false = true ∨ (i : Int) ∈ fr) by
    intro fr
    obtain ⟨a, b⟩ := h fr (List.replicate n false) (by simp)
    refine ⟨a, fun i hi => ?_⟩
    have := b i hi
    unfold markAll
    rw [this]
    simp [List.getD, hi]
  intro fr
  induction fr with
  | nil => intro out hl; exact ⟨hl, fun i _ => by simp⟩
  | cons x fr ih =>
    intro out hl
    obtain ⟨a, b⟩ := ih (markS n out x) (by rw [markS_len, hl])
    refine ⟨a, fun i hi => ?_⟩
    have := b i hi
    rw [List.foldl_cons, this, List.mem_cons]
    unfold markS
    by_cases hx : 0 ≤ x ∧ x < (n : Int)
    · rw [if_pos hx, getD_set _ _ _ _ _ (by omega)]
      by_cases e : i = x.toNat
      · rw [if_pos e]
        have : (i : Int) = x := by omega
        simp [this]
      · rw [if_neg e]
        have : ¬ (i : Int) = x := by omega
        simp [this]
    · rw [if_neg hx]
      have : ¬ (i : Int) = x := by omega
      simp [this]

/-- its memory: the graph, the row of truths -/
structure RrSt (w wr : World) (gc : Array Value) (B : Nat) (out : List Bool) : Prop where
  below : Below w.heap.size w wr
  hB : w.heap.size < B
  vg : wr.heap[w.heap.size]? = some (.cells gc 26 (0, 0))
  bo : wr.heap[B]? = some (.cells (bools out) 4 (0, 0))
theorem RrSt.more {w wr w' : World} {gc : Array Value} {B : Nat} {out : List Bool} (h : RrSt w wr gc B out) (hb : Below wr.heap.size wr w') : RrSt w w' gc B out := ⟨h.below.trans (hb.mono h.below.size), h.hB, bheap hb h.vg, bheap hb h.bo⟩
theorem RrSt.set {w wr : World} {gc : Array Value} {B : Nat} {out : List Bool} (h : RrSt w wr gc B out) (k : Nat) : RrSt w (wr.setCell ⟨B, k, none⟩ (.bool true)) gc B (out.set k true) := by
  have hB := h.hB
  exact ⟨h.below.setCell (p := ⟨B, k, none⟩) (by show w.heap.size ≤ B; omega) _, hB, by rw [Below.heap_setCell _ _ _ _ (show w.heap.size ≠ B by omega)]; exact h.vg, by rw [heap_setCell_block h.bo, bools_set]⟩
/-- numbers lie elsewhere -/
theorem RrSt.ints {w w4 wr : World} {gc : Array Value} {B : Nat} {out : List Bool} (h : RrSt w w4 gc B out) (hf : Frm (fun k => k = B) w4 wr) {p : Addr} {x : Int} (hc : w4.cell? p = some (.int .i64 x)) : wr.cell? p = some (.int .i64 x) := by
  refine hf.cell hc ?_
  intro e
  obtain ⟨blk, off, spot⟩ := p
  have e : blk = B := e
  subst e
  have hs := World.cell?_spot hc
  simp only at hs
  subst hs
  simp only [World.cell?, h.bo] at hc
  unfold bools at hc
  simp only [List.getElem?_toArray, List.getElem?_map] at hc
  cases hq : out[off]? <;> simp [hq] at hc
theorem RrSt.cell {w wr : World} {gc : Array Value} {B : Nat} {out : List Bool} (h : RrSt w wr gc B out) (k : Nat) (hk : k < out.length) : wr.cell? ⟨B, k, none⟩ = some (.bool (out.getD k false)) := cell_of_block h.bo k _ (bools_get out k hk)
theorem RrSt.free {w wr : World} {gc : Array Value} {B : Nat} {out : List Bool} (h : RrSt w wr gc B out) (k : Nat) : wr.frozen? ⟨B, k, none⟩ = false := free_of_block h.bo k

set_option maxRecDepth 100000 in
set_option maxHeartbeats 4000000 in
theorem rreach_not (v u : Value) (g : Gr) (w : World) (h : GraphAt w v g) (hR : rightB g = false) : Calls Try.prog 40 #[v, u] w (BoolsBack w []) := by
  obtain ⟨sa, aa, ta, sc, ac, tc, rfl, -⟩ := h.var
  have hb := balloc w (.cells #[.slice sa g.S.length sc, .slice aa g.A.length ac, .slice ta g.T.length tc] 26)
  have HNN := Lib.hid (rnodes_ok _ g _ (h.below hb))
  have HN := Lib.hid (fun w' (hw : Below w.heap.size w w') => rright_ok _ g w' (h.below hw))
  rw [hR] at HN
  have X0 := Lib.hid (heap_alloc_new w (.cells #[.slice sa g.S.length sc, .slice aa g.A.length ac, .slice ta g.T.length tc] 26))
  have HB := Lib.hid hb
  clear h hR hb
  go_enter Try.func40, Try.ntmps40
  go_wp2_with (first
    | (go_at_call 31; refine HNN.out.mono ?_; rintro e w1 ⟨rfl, hb1⟩; have d0 := bkeep hb1 (cell_of_block X0.out 0 _ rfl); have d1 := bkeep hb1 (cell_of_block X0.out 1 _ rfl); have d2 := bkeep hb1 (cell_of_block X0.out 2 _ rfl); have HB1 := Lib.hid (HB.out.trans (hb1.mono HB.out.size)); clear hb1)
    | (go_at_call 29; refine (HN.out _ HB1.out).mono ?_; rintro e w2 ⟨rfl, hb2⟩; have HB2 := Lib.hid (HB1.out.trans (hb2.mono HB1.out.size)); clear hb2))
  go_ret
  exact ⟨_, rfl, boolsAt_nil _, HB2.out⟩

/-- a row of truths of the call's own -/
def BoolsNew (w : World) (l : List Bool) (e : Ending) (w' : World) : Prop := ∃ B, e = .returned (.slice (some ⟨B, 0, none⟩) l.length l.length) ∧ w'.heap[B]? = some (.cells (bools l) 4 (0, 0)) ∧ w.heap.size ≤ B ∧ Below w.heap.size w w'
set_option maxRecDepth 100000 in
set_option maxHeartbeats 8000000 in
theorem rreach_new (v u : Value) (g : Gr) (fr : List Int) (w : World) (h : GraphAt w v g) (hu : IntsAt w u fr) (hR : Rt g) (hfl : fr.length ≤ 1000000) : Calls Try.prog 40 #[v, u] w (BoolsNew w (reachL g fr)) := by
  obtain ⟨sa, aa, ta, sc, ac, tc, rfl, -⟩ := h.var
  obtain ⟨fa, fc, rfl, hf⟩ := hu
  have hb := balloc w (.cells #[.slice sa g.S.length sc, .slice aa g.A.length ac, .slice ta g.T.length tc] 26)
  have HNN := Lib.hid (rnodes_ok _ g _ (h.below hb))
  have HN := Lib.hid (fun w' (hw : Below w.heap.size w w') => rright_ok _ g w' (h.below hw))
  have HA := Lib.hid (fun w' (hw : Below w.heap.size w w') => rall_ok _ g w' (h.below hw))
  rw [(rightB_iff g).2 hR] at HN
  have hlen := allL_len hR
  have hsT := h.sT
  have hsS := h.sS
  have hll : (allL g).length ≤ 1000000 := by omega
  have hnn : nodesN g ≤ 1000000 := by rw [nodesN_right hR]; omega
  have hmem := fun e (he : e ∈ allL g) => (allL_mem hR he)
  have hnr := nodesN_right hR
  have HE := Lib.hid (fun out0 out => @pass_end g hR fr out0 out)
  have HM := Lib.hid (fun k (hk : k < (allL g).length) => show ∃ f t : Nat, ((allL g).getD k (0, 0, 0)).1 = (f : Int) ∧ ((allL g).getD k (0, 0, 0)).2.2 = (t : Int) ∧ f < nodesN g ∧ t < nodesN g from by
    have e : (allL g).getD k (0, 0, 0) = (allL g)[k] := by simp [List.getD, hk]
    have := hmem _ (List.getElem_mem hk)
    rw [e]
    exact ⟨(allL g)[k].1.toNat, (allL g)[k].2.2.toNat, by omega, by omega, by omega, by omega⟩)
  have X0 := Lib.hid (heap_alloc_new w (.cells #[.slice sa g.S.length sc, .slice aa g.A.length ac, .slice ta g.T.length tc] 26))
  have HB := Lib.hid hb
  have HF := Lib.hid hf
  obtain ⟨-, mk2⟩ := markAll_spec (nodesN g) fr
  have HK := Lib.hid mk2
  clear h hR hb hf hlen hsT hsS hmem hnr mk2
  generalize nodesN g = n at *
  go_enter Try.func40, Try.ntmps40
  go_wp2_with (first
    | (go_at_call 31; refine HNN.out.mono ?_; rintro e w1 ⟨rfl, hb1⟩; have d0 := bkeep hb1 (cell_of_block X0.out 0 _ rfl); have d1 := bkeep hb1 (cell_of_block X0.out 1 _ rfl); have d2 := bkeep hb1 (cell_of_block X0.out 2 _ rfl); have HX := Lib.hid (bheap hb1 X0.out); have HB1 := Lib.hid (HB.out.trans (hb1.mono HB.out.size)); have hs1 := hb1.size; clear hb1)
    | (go_at_call 29; refine (HN.out _ HB1.out).mono ?_; rintro e w2 ⟨rfl, hb2⟩; have HX2 := Lib.hid (bheap hb2 HX.out); have HB2 := Lib.hid (HB1.out.trans (hb2.mono HB1.out.size)); have hs2 := hb2.size; clear hb2 d0 d1 d2)
    | (at_make; refine wpList_make_one _ rfl (.tmp 16) (.tmp 16) 33 rfl 4 (.bool false) rfl 1 Try.underlying33 Try.info4 .i64 .i64 (n : Nat) (n : Nat) n rfl rfl rfl rfl (by omega) (by unfold maxLen; omega) ?_; intro w3 hh3 hb3 hlt3; have RS := Lib.hid (RrSt.mk (B := w2.heap.size) (out := List.replicate n false) (HB2.out.trans (hb3.mono HB2.out.size)) (by simp at hs1; omega) (bheap hb3 HX2.out) (by rw [bools_replicate]; exact hh3)); clear hh3 hb3 hlt3))
  go_loopg [7] fr.length (fun fu c wr => ∃ k : Nat, k + fu = fr.length ∧ c = .int .i64 k ∧ RrSt w wr #[.slice sa g.S.length sc, .slice aa g.A.length ac, .slice ta g.T.length tc] w2.heap.size (markAll n (fr.take k)))
  case atStart => exact ⟨0, by omega, rfl, by simpa [markAll] using RS.out⟩
  case round =>
    clear RS
    obtain ⟨k, hk, rfl, hS⟩ := hrel
    by_cases hlt : k < fr.length
    · obtain ⟨b, off, rfl, d⟩ := HF.out k hlt
      have y := bkeep hS.below d
      have hstep := markAll_take n fr k hlt
      have hml := (markAll_spec n (fr.take k)).1
      have z : (k : Int) < (fr.length : Int) := by omega
      clear d
      generalize fr.getD k 0 = x at *
      by_cases t1 : x < 0
      · have E := Lib.hid (hstep.trans (if_neg (by omega)))
        have HS := Lib.hid hS
        clear hS hstep
        go_wp2_with fail
        go_roundg (gk - 1)
        case measure => omega
        case rel => exact ⟨k + 1, by omega, by simp, by rw [E.out]; exact HS.out⟩
      by_cases t2 : (n : Int) ≤ x
      · have E := Lib.hid (hstep.trans (if_neg (by omega)))
        have HS := Lib.hid hS
        have t3 : ¬ x < (n : Int) := by omega
        clear hS hstep
        go_wp2_with fail
        go_roundg (gk - 1)
        case measure => omega
        case rel => exact ⟨k + 1, by omega, by simp, by rw [E.out]; exact HS.out⟩
      · obtain ⟨q, rfl⟩ : ∃ q : Nat, x = (q : Int) := ⟨x.toNat, by omega⟩
        have E := Lib.hid (hstep.trans (if_pos (by omega)))
        have hc := hS.cell q (by omega)
        have hfz := hS.free q
        have HS := Lib.hid (hS.set q)
        have b2 : (q : Int) < (n : Int) := by omega
        clear hS hstep
        generalize (markAll n (fr.take k)).getD q false = bq at *
        go_wp2_with fail
        go_roundg (gk - 1)
        case measure => omega
        case rel => exact ⟨k + 1, by omega, by simp, by rw [E.out]; exact HS.out⟩
    · obtain rfl : gk = 0 := by omega
      obtain rfl : k = fr.length := by omega
      rw [List.take_length] at hS
      have HS := Lib.hid hS
      have a0 := cell_of_block hS.vg 0 _ rfl
      have a1 := cell_of_block hS.vg 1 _ rfl
      have a2 := cell_of_block hS.vg 2 _ rfl
      clear hS
      go_wp2_with (first
        | (go_at_call 33; refine (HA.out _ HS.out.below).mono ?_; rintro e w4 ⟨lv, rfl, hE, hb4⟩; have HS4 := Lib.hid (HS.out.more hb4); obtain ⟨la, lc, rfl, hl⟩ := hE; have HL := Lib.hid hl; clear hl hb4))
      have hms := (markAll_spec n fr).1
      have PS := Lib.hid (fun (out : List Bool) (hl : out.length = n) (hs : ∀ i, i < n → out.getD i false = true → Rch (allL g) (Src n fr) (i : Int)) => pass_start (l := allL g) hl hs)
      have hs0 : ∀ i, i < n → (markAll n fr).getD i false = true → Rch (allL g) (Src n fr) (i : Int) := fun i hi he => .base ⟨(HK.out i hi).1 he, by omega, by omega⟩
      have HS0 := Lib.hid hs0
      have HMS := Lib.hid hms
      clear hs0 hms a0 a1 a2 hlt hk
      generalize allL g = l at *
      have hllz : (l.length : Int) ≤ 1000000 := by omega
      go_loopg [9] (falses (markAll n fr) + 1) (fun fu m wr => ∃ (out : List Bool) (more : Bool), m = .bool more ∧ fu = (if more = true then falses out + 1 else 0) ∧ RrSt w wr #[.slice sa g.S.length sc, .slice aa g.A.length ac, .slice ta g.T.length tc] w2.heap.size out ∧ Frm (fun k => k = w2.heap.size) w4 wr ∧ out.length = n ∧
        (∀ i, i < n → out.getD i false = true → Rch l (Src n fr) (i : Int)) ∧ (∀ i : Nat, i < n → (i : Int) ∈ fr → out.getD i false = true) ∧ (more = false → out = reachL g fr))
      case atStart => exact ⟨_, true, rfl, by simp, HS4.out, Frm.refl _ _, HMS.out, HS0.out, fun i hi hm => (HK.out i hi).2 hm, fun h => by cases h⟩
      case round =>
        obtain ⟨out, more, rfl, hfu, hS, hfr, hlen, hsound, hsrc, hdone⟩ := hrel
        cases more
        · have E := Lib.hid (hdone rfl)
          have HS := Lib.hid hS
          have HLN := Lib.hid hlen
          clear hfu hS hfr hlen hsound hsrc hdone
          go_wp2_with fail
          go_ret
          exact ⟨w2.heap.size, by have e : (reachL g fr).length = n := (by rw [← E.out, HLN.out]); rw [e]; rfl, by rw [← E.out]; exact HS.out.bo, Nat.le_of_lt HS.out.hB, HS.out.below⟩
        · have HG := Lib.hid (show gk = falses out + 1 by simpa using hfu)
          have HS := Lib.hid hS
          have HFR := Lib.hid hfr
          have P0 := Lib.hid (PS.out out hlen hsound)
          have HSRC := Lib.hid hsrc
          clear hfu hS hfr hlen hsound hsrc hdone
          go_wp2_with fail
          obtain ⟨wr1, rfl⟩ : ∃ z : World, z = wr := ⟨_, rfl⟩
          obtain ⟨gk', rfl⟩ : ∃ z : Nat, z = gk := ⟨_, rfl⟩
          go_loopg [9, 10] l.length (fun fu m c wr => ∃ (r : Nat) (out' : List Bool) (more : Bool), r + fu = l.length ∧ m = .bool more ∧ c = .int .i64 r ∧ RrSt w wr #[.slice sa g.S.length sc, .slice aa g.A.length ac, .slice ta g.T.length tc] w2.heap.size out' ∧ Frm (fun k => k = w2.heap.size) w4 wr ∧ Pass n fr l out r out' more)
          case atStart => exact ⟨0, out, false, by omega, rfl, rfl, HS.out, HFR.out, P0.out⟩
          case round =>
            clear HS HFR P0
            obtain ⟨r, out', more, hr, rfl, rfl, hS, hfr, hP⟩ := hrel
            by_cases hlt : r < l.length
            · obtain ⟨f, t, hf1, ht1, hfn, htn⟩ := HM.out r hlt
              obtain ⟨b, off, rfl, e1, e2, e3⟩ := HL.out r hlt
              have y1 := HS4.out.ints hfr e1
              have y3 := HS4.out.ints hfr e3
              have hol := hP.len
              have cf := hS.cell f (by omega)
              have ct := hS.cell t (by omega)
              have fz := hS.free t
              have z : (r : Int) < (l.length : Int) := by omega
              have zf : (f : Int) < (n : Int) := by omega
              have zt : (t : Int) < (n : Int) := by omega
              have hskip := Lib.hid (fun (hno : out'.getD f false = true → out'.getD t false = true) => hP.skip (r := r) (by rw [hf1, ht1]; simpa using hno))
              have hhit := Lib.hid (fun h1 h2 => hP.hit hlt hf1 ht1 hfn htn h1 h2)
              have HS := Lib.hid hS
              have HS1 := Lib.hid (hS.set t)
              have HFR := Lib.hid hfr
              have HFR1 := Lib.hid (hfr.setCell (p := ⟨w2.heap.size, t, none⟩) (fun _ => rfl) (.bool true))
              rw [hf1] at y1
              rw [ht1] at y3
              clear hf1 ht1 e1 e2 e3 hS hfr hP hol
              cases h1 : out'.getD f false
              · have K := Lib.hid (hskip.out (fun h => by rw [h1] at h; cases h))
                rw [h1] at cf
                clear hskip hhit h1
                generalize out'.getD t false = bt at *
                go_wp2_with fail
                go_roundg (gk - 1)
                case measure => omega
                case rel => exact ⟨r + 1, out', more, by omega, rfl, by simp, HS.out, HFR.out, K.out⟩
              · cases h2 : out'.getD t false
                · have K := Lib.hid (hhit.out h1 h2)
                  rw [h1] at cf
                  rw [h2] at ct
                  clear hskip hhit h1 h2
                  go_wp2_with fail
                  go_roundg (gk - 1)
                  case measure => omega
                  case rel => exact ⟨r + 1, out'.set t true, true, by omega, rfl, by simp, HS1.out, HFR1.out, K.out⟩
                · have K := Lib.hid (hskip.out (fun _ => h2))
                  rw [h1] at cf
                  rw [h2] at ct
                  clear hskip hhit h1 h2
                  go_wp2_with fail
                  go_roundg (gk - 1)
                  case measure => omega
                  case rel => exact ⟨r + 1, out', more, by omega, rfl, by simp, HS.out, HFR.out, K.out⟩
            · obtain rfl : gk = 0 := by omega
              obtain rfl : r = l.length := by omega
              have hsrc2 : ∀ i : Nat, i < n → (i : Int) ∈ fr → out'.getD i false = true := fun i hi hm => hP.keep i (HSRC.out i hi hm)
              have hdone2 : more = false → out' = reachL g fr := fun e => HE.out out out' (e ▸ hP) HSRC.out
              have hless : more = true → falses out' < falses out := hP.less
              have HQ := Lib.hid (And.intro hS (And.intro hfr (And.intro hP.len (And.intro hP.sound (And.intro hsrc2 hdone2)))))
              have HLS := Lib.hid hless
              clear hS hfr hP hsrc2 hdone2 hless
              cases more
              · go_wp2_with fail
                go_roundg 0
                case measure => have := HG.out; omega
                case rel => exact ⟨out', false, rfl, by simp, HQ.out.1, HQ.out.2.1, HQ.out.2.2.1, HQ.out.2.2.2.1, HQ.out.2.2.2.2.1, fun _ => HQ.out.2.2.2.2.2 trivial⟩
              · go_wp2_with fail
                go_roundg (falses out' + 1)
                case measure => have := HG.out; have := HLS.out trivial; omega
                case rel => exact ⟨out', true, rfl, by simp, HQ.out.1, HQ.out.2.1, HQ.out.2.2.1, HQ.out.2.2.2.1, HQ.out.2.2.2.2.1, fun h => by cases h⟩
theorem rreach_right (v u : Value) (g : Gr) (fr : List Int) (w : World) (h : GraphAt w v g) (hu : IntsAt w u fr) (hR : Rt g) (hfl : fr.length ≤ 1000000) : Calls Try.prog 40 #[v, u] w (BoolsBack w (reachL g fr)) := by
  refine (rreach_new v u g fr w h hu hR hfl).mono ?_
  rintro e w' ⟨B, rfl, hh, -, hb⟩
  exact ⟨_, rfl, boolsAt_block hh rfl _, hb⟩
theorem rreach_ok (v u : Value) (g : Gr) (fr : List Int) (w : World) (h : GraphAt w v g) (hu : IntsAt w u fr) (hfl : fr.length ≤ 1000000) : Calls Try.prog 40 #[v, u] w (BoolsBack w (reachL g fr)) := by
  cases hr : rightB g
  · rw [reachL_not hr]; exact rreach_not v u g w h hr
  · exact rreach_right v u g fr w h hu ((rightB_iff g).1 hr) hfl
end Go.Proofs.Ytnlaonppgebpoaa
