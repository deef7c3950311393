/-
  ref17.Same, has; both Cyclic: the walks. scc.Cyclic: the walk.
-/
import Derived.Test.YtnlaonppgebpoaaRefPartsW
import Derived.Test.YtnlaonppgebpoaaCmp
import Derived.Deep.QuietTactic
import Derived.Test.YtnlaonppgebpoaaMade2
namespace Go.Proofs.Ytnlaonppgebpoaa
open Go.RowKit

set_option maxRecDepth 100000 in
set_option maxHeartbeats 8000000 in
theorem rows_same (v u : Value) (rows : List (List Int)) (w : World) (h : RowsAt w v rows) (k : RowsAt w u rows) (hl : rows.length ≤ 1000000) (hr : ∀ r ∈ rows, r.length ≤ 1000000) :
    Calls Try.prog 45 #[v, u] w fun e w' => e = .returned (.bool true) ∧ Below w.heap.size w w' := by
  obtain ⟨a, ac, rfl, ha⟩ := h
  obtain ⟨b, bc, rfl, hb⟩ := k
  have HA := Lib.hid ha
  have HB := Lib.hid hb
  have HR := Lib.hid hr
  clear ha hb hr
  have nl := ne_false (rows.length : Int)
  go_enter Try.func45, Try.ntmps45
  go_wp2_with fail
  clear nl
  go_loopg [5] rows.length (fun fu c wr => ∃ k : Nat, k + fu = rows.length ∧ c = .int .i64 k ∧ Below w.heap.size w wr)
  case atStart => exact ⟨0, by omega, rfl, Below.refl _ _⟩
  case round =>
    obtain ⟨k, hk, rfl, hbw⟩ := hrel
    by_cases hlt : k < rows.length
    · obtain ⟨b1, o1, v1, rfl, d1, r1⟩ := HA.out k hlt
      obtain ⟨b2, o2, v2, rfl, d2, r2⟩ := HB.out k hlt
      have hrl := HR.out (rows.getD k []) (by rw [List.getD_eq_getElem?_getD, List.getElem?_eq_getElem hlt]; simp)
      obtain ⟨row, hrow⟩ : ∃ z, rows.getD k [] = z := ⟨_, rfl⟩
      rw [hrow] at r1 r2 hrl
      obtain ⟨a1, c1, rfl, q1⟩ := r1
      obtain ⟨a2, c2, rfl, q2⟩ := r2
      have y1 := bkeep hbw d1
      have y2 := bkeep hbw d2
      have z1 : (k : Int) < (rows.length : Int) := by omega
      have n1 := ne_false (row.length : Int)
      have Q1 := Lib.hid q1
      have Q2 := Lib.hid q2
      have HBW := Lib.hid hbw
      have D1 := Lib.hid d1
      have D2 := Lib.hid d2
      clear d1 d2 q1 q2 hrow
      go_wp2_with fail
      go_quiet (fail)
      go_wp2_with fail
      clear n1 y1 y2
      obtain ⟨wr1, rfl⟩ : ∃ z : World, z = wr := ⟨_, rfl⟩
      go_loopg [6] row.length (fun fu c wr => ∃ j : Nat, j + fu = row.length ∧ c = .int .i64 j ∧ Below w.heap.size w wr)
      case atStart => exact ⟨0, by omega, rfl, by first | exact HBW.out | exact bdrewN HBW.out _⟩
      case round =>
        obtain ⟨j, hj, rfl, hb2⟩ := hrel
        have y1 := bkeep hb2 D1.out
        have y2 := bkeep hb2 D2.out
        by_cases hlt2 : j < row.length
        · obtain ⟨b3, o3, rfl, e3⟩ := Q1.out j hlt2
          obtain ⟨b4, o4, rfl, e4⟩ := Q2.out j hlt2
          have y3 := bkeep hb2 e3
          have y4 := bkeep hb2 e4
          have z2 : (j : Int) < (row.length : Int) := by omega
          have n2 := ne_false (row.getD j 0)
          clear e3 e4
          generalize row.getD j 0 = x at *
          go_wp2_with fail
          go_quiet (fail)
          go_wp2_with fail
          go_roundg (row.length - (j + 1))
          case measure => omega
          case rel => exact ⟨j + 1, by omega, by simp, by first | exact hb2 | exact hb2.drew | exact bdrewN hb2 _⟩
        · have z2 : ¬ (j : Int) < (row.length : Int) := by omega
          go_wp2_with fail
          go_roundg (rows.length - (k + 1))
          case measure => omega
          case rel => exact ⟨k + 1, by omega, by simp, hb2⟩
    · go_wp2_with fail
      go_ret
      exact ⟨rfl, hbw⟩

set_option maxRecDepth 100000 in
set_option maxHeartbeats 4000000 in
theorem has_ok (v : Value) (l : List Int) (x : Int) (w : World) (h : IntsAt w v l) (hl : l.length ≤ 1000000) :
    Calls Try.prog 88 #[v, .int .i64 x] w fun e w' => e = .returned (.bool (decide (x ∈ l))) ∧ Below w.heap.size w w' := by
  obtain ⟨a, ac, rfl, ha⟩ := h
  have HA := Lib.hid ha
  clear ha
  go_enter Try.func88, Try.ntmps88
  go_wp2_with fail
  go_loopg [5] l.length (fun fu c wr => ∃ k : Nat, k + fu = l.length ∧ c = .int .i64 k ∧ (∀ j, j < k → l.getD j 0 ≠ x) ∧ w = wr)
  case atStart => exact ⟨0, by omega, rfl, fun j hj => by omega, rfl⟩
  case round =>
    obtain ⟨k, hk, rfl, hall, rfl⟩ := hrel
    by_cases hlt : k < l.length
    · obtain ⟨b1, o1, rfl, d1⟩ := HA.out k hlt
      have z1 : (k : Int) < (l.length : Int) := by omega
      have HM := Lib.hid (show l.getD k 0 ∈ l from getD_mem hlt)
      have HL := Lib.hid hall
      have hnx : l.getD k 0 ≠ x → ∀ j, j < k + 1 → l.getD j 0 ≠ x := fun hne j hj => by
        by_cases e : j = k
        · rw [e]; exact hne
        · exact HL.out j (by omega)
      have HN := Lib.hid hnx
      clear hall hnx
      generalize l.getD k 0 = y at *
      by_cases e : y = x
      · go_wp2_with fail
        go_ret
        exact ⟨by rw [← e, decide_eq_true HM.out]; rfl, Below.refl _ _⟩
      · go_wp2_with fail
        go_roundg (l.length - (k + 1))
        case measure => omega
        case rel => exact ⟨k + 1, by omega, by simp, HN.out e, rfl⟩
    · have e : x ∉ l := fun hm => by
        obtain ⟨j, hj, e⟩ := List.getElem_of_mem hm
        refine hall j (by omega) ?_
        rw [List.getD_eq_getElem?_getD, List.getElem?_eq_getElem hj]; simpa using e
      go_wp2_with fail
      go_ret
      exact ⟨by rw [decide_eq_false e]; rfl, Below.refl _ _⟩

open Classical in
noncomputable def cycB (g : Gr) (l : List Int) : Bool := decide (∃ e ∈ allL g, e.1 ∈ l ∧ e.2.2 ∈ l)

set_option maxRecDepth 100000 in
set_option maxHeartbeats 8000000 in
theorem rcyc_ok (v u : Value) (g : Gr) (l : List Int) (w : World) (h : GraphAt w v g) (hu : IntsAt w u l) (hl : l.length ≤ 1000000) :
    Calls Try.prog 51 #[v, u] w fun e w' => e = .returned (.bool (cycB g l)) ∧ Below w.heap.size w w' := by
  obtain ⟨sa, aa, ta, sc, ac, tc, rfl, -⟩ := h.var
  have hb := balloc w (.cells #[.slice sa g.S.length sc, .slice aa g.A.length ac, .slice ta g.T.length tc] 26)
  have RA := Lib.hid (rall_ok _ g _ (h.below hb))
  have HB := Lib.hid hb
  have X0 := Lib.hid (heap_alloc_new w (.cells #[.slice sa g.S.length sc, .slice aa g.A.length ac, .slice ta g.T.length tc] 26))
  have HH := Lib.hid (fun (w' : World) (hw : Below w.heap.size w w') (x : Int) => has_ok u l x w' (hu.below hw) hl)
  have HE : Hid (∀ k, (∀ j, j < k → ¬ (((allL g).getD j (0, 0, 0)).1 ∈ l ∧ ((allL g).getD j (0, 0, 0)).2.2 ∈ l)) → k = (allL g).length → cycB g l = false) := Lib.hid (fun k hall hk => by
    unfold cycB
    refine decide_eq_false ?_
    rintro ⟨e, he, h1, h2⟩
    obtain ⟨j, hj, rfl⟩ := List.getElem_of_mem he
    refine hall j (by omega) ?_
    rw [List.getD_eq_getElem?_getD, List.getElem?_eq_getElem hj]
    exact ⟨h1, h2⟩)
  have HY : Hid (∀ k, k < (allL g).length → ((allL g).getD k (0, 0, 0)).1 ∈ l → ((allL g).getD k (0, 0, 0)).2.2 ∈ l → cycB g l = true) := Lib.hid (fun k hk h1 h2 => by
    unfold cycB
    refine decide_eq_true ⟨(allL g).getD k (0, 0, 0), ?_, h1, h2⟩
    rw [List.getD_eq_getElem?_getD, List.getElem?_eq_getElem hk]; simp)
  have hal : (allL g).length ≤ 1000000 := by
    cases e : rightB g
    · rw [allL_not e]; simp
    · rw [allL_len ((rightB_iff g).1 e)]; exact h.sT
  clear h hb hu hl
  generalize allL g = al at *
  go_enter Try.func51, Try.ntmps51
  go_wp2_with (go_at_call 33; refine RA.out.mono ?_; rintro e w1 ⟨rv, rfl, hE, hb1⟩; obtain ⟨ea, ec, rfl, hE⟩ := hE; have HED := Lib.hid hE; have HB1 := Lib.hid (HB.out.trans (hb1.mono HB.out.size)); clear hb1 hE)
  go_loopg [6] al.length (fun fu c wr => ∃ k : Nat, k + fu = al.length ∧ c = .int .i64 k ∧ (∀ j, j < k → ¬ ((al.getD j (0, 0, 0)).1 ∈ l ∧ (al.getD j (0, 0, 0)).2.2 ∈ l)) ∧ Below w1.heap.size w1 wr)
  case atStart => exact ⟨0, by omega, rfl, fun j hj => by omega, Below.refl _ _⟩
  case round =>
    obtain ⟨k, hk, rfl, hall, hbr⟩ := hrel
    by_cases hlt : k < al.length
    · obtain ⟨b1, o1, rfl, d1, -, d3⟩ := HED.out k hlt
      have y1 := bkeep hbr d1
      have HBR := Lib.hid hbr
      have D3 := Lib.hid d3
      have z1 : (k : Int) < (al.length : Int) := by omega
      have HL := Lib.hid hall
      have hnx : ¬ ((al.getD k (0, 0, 0)).1 ∈ l ∧ (al.getD k (0, 0, 0)).2.2 ∈ l) → ∀ j, j < k + 1 → ¬ ((al.getD j (0, 0, 0)).1 ∈ l ∧ (al.getD j (0, 0, 0)).2.2 ∈ l) := fun hne j hj => by
        by_cases e : j = k
        · rw [e]; exact hne
        · exact HL.out j (by omega)
      have HN := Lib.hid hnx
      have HK := Lib.hid (HY.out k hlt)
      clear hall hnx d1 d3 hbr
      generalize al.getD k (0, 0, 0) = ed at *
      obtain ⟨ex, ey, ez⟩ := ed
      have H1 := Lib.hid (HH.out wr (HB1.out.trans (HBR.out.mono HB1.out.size)) ex)
      by_cases m1 : ex ∈ l
      · rw [decide_eq_true m1] at H1
        by_cases m2 : ez ∈ l
        · go_wp2_with (first
            | (go_at_call_of 88 (Value.int .i64 ex); refine H1.out.mono ?_; rintro e w2 ⟨rfl, hb2⟩; have HB2 := Lib.hid (HBR.out.trans (hb2.mono HBR.out.size)); have y3 := bkeep HB2.out D3.out; have H2 := Lib.hid (HH.out w2 (HB1.out.trans (HB2.out.mono HB1.out.size)) ez); rw [decide_eq_true m2] at H2; clear hb2)
            | (go_at_call_of 88 (Value.int .i64 ez); refine H2.out.mono ?_; rintro e w3 ⟨rfl, hb3⟩; have HB3 := Lib.hid (HB2.out.trans (hb3.mono HB2.out.size)); clear hb3))
          go_ret
          exact ⟨by rw [HK.out m1 m2]; rfl, HB1.out.trans (HB3.out.mono HB1.out.size)⟩
        · go_wp2_with (first
            | (go_at_call_of 88 (Value.int .i64 ex); refine H1.out.mono ?_; rintro e w2 ⟨rfl, hb2⟩; have HB2 := Lib.hid (HBR.out.trans (hb2.mono HBR.out.size)); have y3 := bkeep HB2.out D3.out; have H2 := Lib.hid (HH.out w2 (HB1.out.trans (HB2.out.mono HB1.out.size)) ez); rw [decide_eq_false m2] at H2; clear hb2)
            | (go_at_call_of 88 (Value.int .i64 ez); refine H2.out.mono ?_; rintro e w3 ⟨rfl, hb3⟩; have HB3 := Lib.hid (HB2.out.trans (hb3.mono HB2.out.size)); clear hb3))
          go_roundg (al.length - (k + 1))
          case measure => omega
          case rel => exact ⟨k + 1, by omega, by simp, HN.out (fun q => m2 q.2), HB3.out⟩
      · rw [decide_eq_false m1] at H1
        go_wp2_with (first
            | (go_at_call_of 88 (Value.int .i64 ex); refine H1.out.mono ?_; rintro e w2 ⟨rfl, hb2⟩; have HB2 := Lib.hid (HBR.out.trans (hb2.mono HBR.out.size)); clear hb2))
        go_roundg (al.length - (k + 1))
        case measure => omega
        case rel => exact ⟨k + 1, by omega, by simp, HN.out (fun q => m1 q.1), HB2.out⟩
    · obtain rfl : k = al.length := by omega
      have e := HE.out _ hall rfl
      go_wp2_with fail
      go_ret
      exact ⟨by rw [e]; rfl, HB1.out.trans (hbr.mono HB1.out.size)⟩
end Go.Proofs.Ytnlaonppgebpoaa

namespace Go.Proofs.Ytnlaonppgebpoaa
open Go.RowKit

theorem outL_mem {g : Gr} {i : Int} {e : Ed} : e ∈ outL g i ↔ e ∈ allL g ∧ e.1 = i := by
  cases hr : rightB g
  · rw [allL_not hr]
    unfold outL
    rw [if_neg (fun h => by rw [hr] at h; cases h.1)]
    simp
  · have hR := (rightB_iff g).1 hr
    have hn := nodesN_right hR
    unfold outL
    rw [mem_all hR]
    constructor
    · intro h
      by_cases hc : rightB g = true ∧ 0 ≤ i ∧ i + 1 < g.S.length
      · rw [if_pos hc] at h
        obtain ⟨-, h1, h2⟩ := hc
        exact ⟨⟨i.toNat, by omega, h⟩, by rw [eds_fst h]; omega⟩
      · rw [if_neg hc] at h; cases h
    · rintro ⟨⟨j, hj, he⟩, hi⟩
      have := eds_fst he
      have hij : i = (j : Int) := by omega
      subst hij
      rw [if_pos ⟨hr, by omega, by omega⟩]
      simpa using he
theorem outL_wf {g : Gr} {w : World} {v : Value} (h : GraphAt w v g) {i : Int} {e : Ed} (he : e ∈ outL g i) : (Lit.int .i64 e.2.2).wf = true := by
  have hm := (outL_mem.1 he).1
  cases hr : rightB g
  · rw [allL_not hr] at hm; cases hm
  · have := allL_mem ((rightB_iff g).1 hr) hm
    have := h.sS
    exact WalkArith.wf_i64 (by omega)
/-- the counts behind k places -/
def CntF (l : List Int) (k : Nat) (f : Int → Option Int) : Prop := ∀ p, 0 ≤ (f p).getD 0 ∧ (f p).getD 0 ≤ (k : Int) ∧ (0 < (f p).getD 0 ↔ p ∈ l.take k)
theorem cntF_zero (l : List Int) : CntF l 0 (fun _ => none) := fun p => ⟨by simp, by simp, by simp⟩
theorem cntF_step {l : List Int} {k : Nat} {f : Int → Option Int} (h : CntF l k f) (hk : k < l.length) : CntF l (k + 1) (fun x => if x = l.getD k 0 then some ((f (l.getD k 0)).getD 0 + 1) else f x) := by
  intro p
  have e : l.take (k + 1) = l.take k ++ [l.getD k 0] := by
    rw [List.take_add_one, List.getD_eq_getElem?_getD, List.getElem?_eq_getElem hk]; rfl
  rw [e]
  obtain ⟨h1, h2, h3⟩ := h (l.getD k 0)
  obtain ⟨g1, g2, g3⟩ := h p
  show 0 ≤ (if p = l.getD k 0 then some ((f (l.getD k 0)).getD 0 + 1) else f p).getD 0 ∧ (if p = l.getD k 0 then some ((f (l.getD k 0)).getD 0 + 1) else f p).getD 0 ≤ ((k + 1 : Nat) : Int) ∧ (0 < (if p = l.getD k 0 then some ((f (l.getD k 0)).getD 0 + 1) else f p).getD 0 ↔ p ∈ l.take k ++ [l.getD k 0])
  by_cases hp : p = l.getD k 0
  · rw [if_pos hp]
    simp only [Option.getD_some, List.mem_append, List.mem_singleton]
    exact ⟨by omega, by omega, ⟨fun _ => .inr hp, fun _ => by omega⟩⟩
  · rw [if_neg hp]
    simp only [List.mem_append, List.mem_singleton]
    exact ⟨g1, by omega, ⟨fun q => .inl (g3.1 q), fun q => g3.2 (by rcases q with q | q; exact q; exact absurd q hp)⟩⟩

set_option maxRecDepth 100000 in
set_option maxHeartbeats 8000000 in
theorem cyc_ok (v u : Value) (g : Gr) (l : List Int) (w : World) (h : GraphAt w v g) (hu : IntsAt w u l) (hw : ∀ x ∈ l, (Lit.int .i64 x).wf = true) (hl : l.length ≤ 1000000) :
    Calls Try.prog 50 #[v, u] w fun e w' => e = .returned (.bool (cycB g l)) ∧ Below w.heap.size w w' := by
  obtain ⟨sa, aa, ta, sc, ac, tc, rfl, -⟩ := h.var
  obtain ⟨a, c, rfl, ha⟩ := hu
  have hmm := @run_makeMap Try.prog
  have hb := balloc w (.cells #[.slice sa g.S.length sc, .slice aa g.A.length ac, .slice ta g.T.length tc] 26)
  have OUT := Lib.hid (fun (w' : World) (hw : Below w.heap.size w w') (i : Int) => out_ok _ g i w' (h.below hw))
  have OWF := Lib.hid (fun (i : Int) (e : Ed) (he : e ∈ outL g i) => outL_wf h he)
  have OLEN := Lib.hid (fun (i : Int) => Nat.le_trans (outL_len g i) h.sT)
  have X0 := Lib.hid (heap_alloc_new w (.cells #[.slice sa g.S.length sc, .slice aa g.A.length ac, .slice ta g.T.length tc] 26))
  have hb2 := hb.trans ((balloc (w.alloc (.cells #[.slice sa g.S.length sc, .slice aa g.A.length ac, .slice ta g.T.length tc] 26)) (.map #[] 0)).mono hb.size)
  have M0 := Lib.hid (MapI.made (w.alloc (.cells #[.slice sa g.S.length sc, .slice aa g.A.length ac, .slice ta g.T.length tc] 26)))
  have X1 := Lib.hid (bheap (balloc (w.alloc (.cells #[.slice sa g.S.length sc, .slice aa g.A.length ac, .slice ta g.T.length tc] 26)) (.map #[] 0)) X0.out)
  have HB := Lib.hid hb2
  have HA := Lib.hid ha
  have HW := Lib.hid hw
  rw [World.size_alloc] at M0
  clear h hb hb2 ha hw X0
  go_enter Try.func50, Try.ntmps50
  go_wp2_with fail
  go_loopg [15] l.length (fun fu c wr => ∃ (k m sz : Nat) (f : Int → Option Int), k + fu = l.length ∧ c = .int .i64 k ∧ m ≤ k ∧ CntF l k f ∧ MapI wr (w.heap.size + 1) m f sz ∧ Below w.heap.size w wr ∧ wr.heap[w.heap.size]? = some (.cells #[.slice sa g.S.length sc, .slice aa g.A.length ac, .slice ta g.T.length tc] 26))
  case atStart => exact ⟨0, 0, 0, _, by omega, rfl, Nat.le_refl _, cntF_zero l, M0.out, HB.out, X1.out⟩
  case round =>
    clear M0 HB X1
    obtain ⟨k, m, sz, f, hk, rfl, hm, hf, hM, hb, hx⟩ := hrel
    by_cases hlt : k < l.length
    · obtain ⟨b1, o1, rfl, d1⟩ := HA.out k hlt
      have y1 := bkeep hb d1
      have z1 : (k : Int) < (l.length : Int) := by omega
      have hst := cntF_step hf hlt
      have hwf := HW.out _ (getD_mem hlt)
      have hfp := hf (l.getD k 0)
      generalize l.getD k 0 = p at *
      have hwr : IntKind.i64.wrap ((f p).getD 0 + 1) = (f p).getD 0 + 1 := IntWalk.i64_in _ (by omega)
      have HM := Lib.hid hM
      have HWF := Lib.hid hwf
      have HST := Lib.hid hst
      have HB := Lib.hid hb
      have HX := Lib.hid hx
      have HWP : Hid ((Lit.int .i64 ((f p).getD 0 + 1)).wf = true) := Lib.hid (WalkArith.wf_i64 (by omega))
      clear d1 hst hwf hfp hM hb hx hf
      go_wp2_with (first
        | (at_lookup; refine wp_look HM.out rfl rfl rfl rfl HWF.out ?_)
        | (at_mapUpdate; refine wp_mput HM.out (by unfold maxLen; omega) rfl rfl rfl rfl (by first | rfl | rw [hwr]; rfl) HWF.out HWP.out ?_; intro w2 hm2 hg2; have HM2 := Lib.hid hm2; have HB2 := Lib.hid (HB.out.grown hg2 HB.out.size (fun k hk => by cases hk; omega)); have HX2 := Lib.hid (hg2.block w.heap.size (by have := (Array.getElem?_eq_some_iff.1 HX.out).1; exact this) (by simp)); clear hm2 hg2))
      go_roundg (l.length - (k + 1))
      case measure => omega
      case rel => exact ⟨k + 1, m + 1, _, _, by omega, by simp, by omega, HST.out, HM2.out, HB2.out, HX2.out.trans HX.out⟩
    · obtain rfl : k = l.length := by omega
      have HF := Lib.hid hf
      have HM := Lib.hid hM
      have HB := Lib.hid hb
      have HX := Lib.hid hx
      clear hf hM hb hx
      have HNO : Hid ((∀ j, j < l.length → ∀ e ∈ outL g (l.getD j 0), e.2.2 ∉ l) → cycB g l = false) := Lib.hid (fun hall => by
        unfold cycB
        refine decide_eq_false ?_
        rintro ⟨e, he, h1, h2⟩
        obtain ⟨j, hj, hje⟩ := List.getElem_of_mem h1
        refine hall j hj e (outL_mem.2 ⟨he, ?_⟩) h2
        rw [List.getD_eq_getElem?_getD, List.getElem?_eq_getElem hj]; simpa using hje.symm)
      have HYES : Hid (∀ j, j < l.length → ∀ e ∈ outL g (l.getD j 0), e.2.2 ∈ l → cycB g l = true) := Lib.hid (fun j hj e he h2 => by
        unfold cycB
        obtain ⟨h3, h4⟩ := outL_mem.1 he
        exact decide_eq_true ⟨e, h3, by rw [h4]; exact getD_mem hj, h2⟩)
      obtain ⟨W1, rfl⟩ : ∃ z : World, z = wr := ⟨_, rfl⟩
      go_wp2_with fail
      go_loopg [26] l.length (fun fu c wr => ∃ k : Nat, k + fu = l.length ∧ c = .int .i64 k ∧ (∀ j, j < k → ∀ e ∈ outL g (l.getD j 0), e.2.2 ∉ l) ∧ Below W1.heap.size W1 wr)
      case atStart => exact ⟨0, by omega, rfl, fun j hj => by omega, Below.refl _ _⟩
      case round =>
        obtain ⟨k, hk, rfl, hall, hbr⟩ := hrel
        by_cases hlt2 : k < l.length
        · obtain ⟨b1, o1, rfl, d1⟩ := HA.out k hlt2
          have hbw := HB.out.trans (hbr.mono HB.out.size)
          have y1 := bkeep hbw d1
          have z1 : (k : Int) < (l.length : Int) := by omega
          have hx2 := bheap hbr HX.out
          have c0 := cell_of_block hx2 0 _ rfl
          have c1 := cell_of_block hx2 1 _ rfl
          have c2 := cell_of_block hx2 2 _ rfl
          have HO := Lib.hid (OUT.out wr hbw (l.getD k 0))
          have HBR := Lib.hid hbr
          have HY2 := Lib.hid (HYES.out k hlt2)
          have HAL := Lib.hid hall
          have HNX : Hid ((∀ e ∈ outL g (l.getD k 0), e.2.2 ∉ l) → ∀ j, j < k + 1 → ∀ e ∈ outL g (l.getD j 0), e.2.2 ∉ l) := Lib.hid (fun hne j hj => by
            by_cases e : j = k
            · rw [e]; exact hne
            · exact HAL.out j (by omega))
          have HWE := Lib.hid (OWF.out (l.getD k 0))
          have hol := OLEN.out (l.getD k 0)
          clear d1 hx2 hall hbr hbw
          generalize outL g (l.getD k 0) = el at *
          generalize l.getD k 0 = p at *
          go_wp2_with (go_at_call 26; refine HO.out.mono ?_; rintro e w3 ⟨rv, rfl, hE, hb3⟩; obtain ⟨ea, ec, rfl, hE⟩ := hE; have HED := Lib.hid hE; have HB3 := Lib.hid (HBR.out.trans (hb3.mono HBR.out.size)); clear hb3 hE)
          clear c0 c1 c2 y1
          go_loopg [34] el.length (fun fu c wr => ∃ r : Nat, r + fu = el.length ∧ c = .int .i64 r ∧ (∀ j, j < r → (el.getD j (0, 0, 0)).2.2 ∉ l) ∧ Below w3.heap.size w3 wr)
          case atStart => exact ⟨0, by omega, rfl, fun j hj => by omega, Below.refl _ _⟩
          case round =>
            obtain ⟨r, hr, rfl, hall2, hbr2⟩ := hrel
            by_cases hlt3 : r < el.length
            · obtain ⟨b3, o3, rfl, e1, e2, e3⟩ := HED.out r hlt3
              have y1 := bkeep hbr2 e1
              have y2 := bkeep hbr2 e2
              have y3 := bkeep hbr2 e3
              have z3 : (r : Int) < (el.length : Int) := by omega
              have hin : el.getD r (0, 0, 0) ∈ el := by rw [List.getD_eq_getElem?_getD, List.getElem?_eq_getElem hlt3]; simp
              have HZ := Lib.hid (HWE.out _ hin)
              have HC := Lib.hid (HY2.out _ hin)
              have HAL2 := Lib.hid hall2
              have HNX2 : Hid ((el.getD r (0, 0, 0)).2.2 ∉ l → ∀ j, j < r + 1 → (el.getD j (0, 0, 0)).2.2 ∉ l) := Lib.hid (fun hne j hj => by
                by_cases e : j = r
                · rw [e]; exact hne
                · exact HAL2.out j (by omega))
              clear e1 e2 e3 hin hall2
              generalize el.getD r (0, 0, 0) = ed at *
              obtain ⟨ex, ey, ez⟩ := ed
              have hb4 := HB3.out.trans ((hbr2.trans ((balloc wr (.cells #[.int .i64 ex, .int .i64 ey, .int .i64 ez] 44)).mono hbr2.size)).mono HB3.out.size)
              have HB4 := Lib.hid ((hbr2.trans ((balloc wr (.cells #[.int .i64 ex, .int .i64 ey, .int .i64 ez] 44)).mono hbr2.size)))
              have HM4 := Lib.hid (MapI.more HM.out hb4)
              have hpos := (HF.out ez).2.2
              rw [List.take_length] at hpos
              have HPOS := Lib.hid hpos
              have HB5 := Lib.hid (HB.out.trans (hb4.mono HB.out.size))
              clear hb4 hpos hbr2
              by_cases hz : ez ∈ l
              · have hz2 := HPOS.out.2 hz
                go_wp2_with (at_lookup; refine wp_look HM4.out rfl rfl rfl rfl HZ.out ?_)
                go_ret
                exact ⟨by rw [HC.out hz]; rfl, HB5.out⟩
              · have hz2 : ¬ 0 < (f ez).getD 0 := fun q => hz (HPOS.out.1 q)
                go_wp2_with (at_lookup; refine wp_look HM4.out rfl rfl rfl rfl HZ.out ?_)
                go_roundg (el.length - (r + 1))
                case measure => omega
                case rel => exact ⟨r + 1, by omega, by simp, HNX2.out hz, HB4.out⟩
            · obtain rfl : r = el.length := by omega
              have hne : ∀ e ∈ el, e.2.2 ∉ l := fun e he => by
                obtain ⟨j, hj, rfl⟩ := List.getElem_of_mem he
                have := hall2 j hj
                rwa [List.getD_eq_getElem?_getD, List.getElem?_eq_getElem hj] at this
              go_wp2_with fail
              go_roundg (l.length - (k + 1))
              case measure => omega
              case rel => exact ⟨k + 1, by omega, by simp, HNX.out hne, HB3.out.trans (hbr2.mono HB3.out.size)⟩
        · obtain rfl : k = l.length := by omega
          have HE := Lib.hid (HNO.out hall)
          go_wp2_with fail
          go_ret
          exact ⟨by rw [HE.out]; rfl, HB.out.trans (hbr.mono HB.out.size)⟩
end Go.Proofs.Ytnlaonppgebpoaa
