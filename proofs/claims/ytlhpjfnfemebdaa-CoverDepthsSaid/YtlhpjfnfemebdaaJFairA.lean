/-
  ref17.Same, has; both Cyclic: the walks. scc.Cyclic: the walk. fair.of, acting, Acts: the walks. Maps of a named type. fair.Acts, ref18.Acts: the walks. Tables: who is enabled where. fair.right, ref18.Right: the walks. fair.right: the walk. Modes of fairness; fair.spoilers, ref18.count: the walks. ref18.count; fair of both: the walks. ref18.fair in both modes: the walks.
-/
import Derived.Test.YtlhpjfnfemebdaaGroupFns
import Derived.Test.YtlhpjfnfemebdaaJRReach
import Derived.Test.YtlhpjfnfemebdaaJMachT
namespace Go.Proofs.Ytlhpjfnfemebdaa
open Go.RowKit
set_option maxRecDepth 100000 in
set_option maxHeartbeats 4000000 in
theorem hasI_ok (v : Value) (l : List Int) (x : Int) (w : World) (h : IntsAt w v l) (hl : l.length ≤ 1000000) :
  Calls Try.prog 80 #[v, .int .i64 x] w fun e w' => e = .returned (.bool (decide (x ∈ l))) ∧ Below w.heap.size w w' := by
 obtain ⟨a, ac, rfl, ha⟩ := h
 have HA := Lib.hid ha
 clear ha
 go_enter Try.func80, Try.ntmps80
 go_wp2_with fail
 go_loopg [5] l.length (fun fu c wr => ∃ k : Nat, k + fu = l.length ∧ c = .int .i64 k ∧ (∀ j, j < k → l.getD j 0 ≠ x) ∧ w = wr)
 case atStart => exact ⟨0, by omega, rfl, fun j hj => by omega, rfl⟩
 case round =>
  obtain ⟨k, hk, rfl, hall, rfl⟩ := hrel
  by_cases hlt : k < l.length
  ·obtain ⟨b1, o1, rfl, d1⟩ := HA.out k hlt
   have z1 : (k : Int) < (l.length : Int) := by omega
   have HM := Lib.hid (show l.getD k 0 ∈ l from getD_mem hlt)
   have HL := Lib.hid hall
   have hnx : l.getD k 0 ≠ x → ∀ j, j < k + 1 → l.getD j 0 ≠ x := fun hne j hj => by
    by_cases e : j = k
    ·rw [e]; exact hne
    ·exact HL.out j (by omega)
   have HN := Lib.hid hnx
   clear hall hnx
   generalize l.getD k 0 = y at *
   by_cases e : y = x
   ·go_wp2_with fail
    go_ret
    exact ⟨by rw [← e, decide_eq_true HM.out]; rfl, Below.refl _ _⟩
   ·go_wp2_with fail
    go_roundg (l.length - (k + 1))
    case measure => omega
    case rel => exact ⟨k + 1, by omega, by simp, HN.out e, rfl⟩
  ·have e : x ∉ l := fun hm => by
    obtain ⟨j, hj, e⟩ := List.getElem_of_mem hm
    refine hall j (by omega) ?_
    rw [List.getD_eq_getElem?_getD, List.getElem?_eq_getElem hj]; simpa using e
   go_wp2_with fail
   go_ret
   exact ⟨by rw [decide_eq_false e]; rfl, Below.refl _ _⟩
open Classical in
noncomputable def cycB (g : Gr) (l : List Int) : Bool := decide (∃ e ∈ allL g, e.1 ∈ l ∧ e.2.2 ∈ l)
set_option maxRecDepth 100000 in
set_option maxHeartbeats 8000000 in
theorem rcyc_ok (v u : Value) (g : Gr) (l : List Int) (w : World) (h : GraphAt w v g) (hu : IntsAt w u l) (hl : l.length ≤ 1000000) :
  Calls Try.prog 63 #[v, u] w fun e w' => e = .returned (.bool (cycB g l)) ∧ Below w.heap.size w w' := by
 obtain ⟨sa, aa, ta, sc, ac, tc, rfl, -⟩ := h.var
 have hb := balloc w (.cells #[.slice sa g.S.length sc, .slice aa g.A.length ac, .slice ta g.T.length tc] 30)
 have RA := Lib.hid (rall_ok _ g _ (h.below hb))
 have HB := Lib.hid hb
 have X0 := Lib.hid (heap_alloc_new w (.cells #[.slice sa g.S.length sc, .slice aa g.A.length ac, .slice ta g.T.length tc] 30))
 have HH := Lib.hid (fun (w' : World) (hw : Below w.heap.size w w') (x : Int) => hasI_ok u l x w' (hu.below hw) hl)
 have HE : Hid (∀ k, (∀ j, j < k → ¬ (((allL g).getD j (0, 0, 0)).1 ∈ l ∧ ((allL g).getD j (0, 0, 0)).2.2 ∈ l)) → k = (allL g).length → cycB g l = false) := Lib.hid (fun k hall hk => by
  unfold cycB
  refine decide_eq_false ?_
  rintro ⟨e, he, h1, h2⟩
  obtain ⟨j, hj, rfl⟩ := List.getElem_of_mem he
  refine hall j (by omega) ?_
  rw [List.getD_eq_getElem?_getD, List.getElem?_eq_getElem hj]
  exact ⟨h1, h2⟩)
 have HY : Hid (∀ k, k < (allL g).length → ((allL g).getD k (0, 0, 0)).1 ∈ l → ((allL g).getD k (0, 0, 0)).2.2 ∈ l → cycB g l = true) := Lib.hid (fun k hk h1 h2 => by
  unfold cycB
  refine decide_eq_true ⟨(allL g).getD k (0, 0, 0), ?_, h1, h2⟩
  rw [List.getD_eq_getElem?_getD, List.getElem?_eq_getElem hk]; simp)
 have hal : (allL g).length ≤ 1000000 := by
  cases e : rightB g
  ·rw [allL_not e]; simp
  ·rw [allL_len ((rightB_iff g).1 e)]; exact h.sT
 clear h hb hu hl
 generalize allL g = al at *
 go_enter Try.func63, Try.ntmps63
 go_wp2_with (go_at_call 30; refine RA.out.mono ?_; rintro e w1 ⟨rv, rfl, hE, hb1⟩; obtain ⟨ea, ec, rfl, hE⟩ := hE; have HED := Lib.hid hE; have HB1 := Lib.hid (HB.out.trans (hb1.mono HB.out.size)); clear hb1 hE)
 go_loopg [6] al.length (fun fu c wr => ∃ k : Nat, k + fu = al.length ∧ c = .int .i64 k ∧ (∀ j, j < k → ¬ ((al.getD j (0, 0, 0)).1 ∈ l ∧ (al.getD j (0, 0, 0)).2.2 ∈ l)) ∧ Below w1.heap.size w1 wr)
 case atStart => exact ⟨0, by omega, rfl, fun j hj => by omega, Below.refl _ _⟩
 case round =>
  obtain ⟨k, hk, rfl, hall, hbr⟩ := hrel
  by_cases hlt : k < al.length
  ·obtain ⟨b1, o1, rfl, d1, -, d3⟩ := HED.out k hlt
   have y1 := bkeep hbr d1
   have HBR := Lib.hid hbr
   have D3 := Lib.hid d3
   have z1 : (k : Int) < (al.length : Int) := by omega
   have HL := Lib.hid hall
   have hnx : ¬ ((al.getD k (0, 0, 0)).1 ∈ l ∧ (al.getD k (0, 0, 0)).2.2 ∈ l) → ∀ j, j < k + 1 → ¬ ((al.getD j (0, 0, 0)).1 ∈ l ∧ (al.getD j (0, 0, 0)).2.2 ∈ l) := fun hne j hj => by
    by_cases e : j = k
    ·rw [e]; exact hne
    ·exact HL.out j (by omega)
   have HN := Lib.hid hnx
   have HK := Lib.hid (HY.out k hlt)
   clear hall hnx d1 d3 hbr
   generalize al.getD k (0, 0, 0) = ed at *
   obtain ⟨ex, ey, ez⟩ := ed
   have H1 := Lib.hid (HH.out wr (HB1.out.trans (HBR.out.mono HB1.out.size)) ex)
   by_cases m1 : ex ∈ l
   ·rw [decide_eq_true m1] at H1
    by_cases m2 : ez ∈ l
    ·go_wp2_with (first
      | (go_at_call_of 80 (Value.int .i64 ex); refine H1.out.mono ?_; rintro e w2 ⟨rfl, hb2⟩; have HB2 := Lib.hid (HBR.out.trans (hb2.mono HBR.out.size)); have y3 := bkeep HB2.out D3.out; have H2 := Lib.hid (HH.out w2 (HB1.out.trans (HB2.out.mono HB1.out.size)) ez); rw [decide_eq_true m2] at H2; clear hb2)
      | (go_at_call_of 80 (Value.int .i64 ez); refine H2.out.mono ?_; rintro e w3 ⟨rfl, hb3⟩; have HB3 := Lib.hid (HB2.out.trans (hb3.mono HB2.out.size)); clear hb3))
     go_ret
     exact ⟨by rw [HK.out m1 m2]; rfl, HB1.out.trans (HB3.out.mono HB1.out.size)⟩
    ·go_wp2_with (first
      | (go_at_call_of 80 (Value.int .i64 ex); refine H1.out.mono ?_; rintro e w2 ⟨rfl, hb2⟩; have HB2 := Lib.hid (HBR.out.trans (hb2.mono HBR.out.size)); have y3 := bkeep HB2.out D3.out; have H2 := Lib.hid (HH.out w2 (HB1.out.trans (HB2.out.mono HB1.out.size)) ez); rw [decide_eq_false m2] at H2; clear hb2)
      | (go_at_call_of 80 (Value.int .i64 ez); refine H2.out.mono ?_; rintro e w3 ⟨rfl, hb3⟩; have HB3 := Lib.hid (HB2.out.trans (hb3.mono HB2.out.size)); clear hb3))
     go_roundg (al.length - (k + 1))
     case measure => omega
     case rel => exact ⟨k + 1, by omega, by simp, HN.out (fun q => m2 q.2), HB3.out⟩
   ·rw [decide_eq_false m1] at H1
    go_wp2_with (first
      | (go_at_call_of 80 (Value.int .i64 ex); refine H1.out.mono ?_; rintro e w2 ⟨rfl, hb2⟩; have HB2 := Lib.hid (HBR.out.trans (hb2.mono HBR.out.size)); clear hb2))
    go_roundg (al.length - (k + 1))
    case measure => omega
    case rel => exact ⟨k + 1, by omega, by simp, HN.out (fun q => m1 q.1), HB2.out⟩
  ·obtain rfl : k = al.length := by omega
   have e := HE.out _ hall rfl
   go_wp2_with fail
   go_ret
   exact ⟨by rw [e]; rfl, HB1.out.trans (hbr.mono HB1.out.size)⟩
end Go.Proofs.Ytlhpjfnfemebdaa
namespace Go.Proofs.Ytlhpjfnfemebdaa
open Go.RowKit
theorem outL_mem {g : Gr} {i : Int} {e : Ed} : e ∈ outL g i ↔ e ∈ allL g ∧ e.1 = i := by
 cases hr : rightB g
 ·rw [allL_not hr]
  unfold outL
  rw [if_neg (fun h => by rw [hr] at h; cases h.1)]
  simp
 ·have hR := (rightB_iff g).1 hr
  have hn := nodesN_right hR
  unfold outL
  rw [mem_all hR]
  constructor
  ·intro h
   by_cases hc : rightB g = true ∧ 0 ≤ i ∧ i + 1 < g.S.length
   ·rw [if_pos hc] at h
    obtain ⟨-, h1, h2⟩ := hc
    exact ⟨⟨i.toNat, by omega, h⟩, by rw [eds_fst h]; omega⟩
   ·rw [if_neg hc] at h; cases h
  ·rintro ⟨⟨j, hj, he⟩, hi⟩
   have := eds_fst he
   have hij : i = (j : Int) := by omega
   subst hij
   rw [if_pos ⟨hr, by omega, by omega⟩]
   simpa using he
theorem outL_wf {g : Gr} {w : World} {v : Value} (h : GraphAt w v g) {i : Int} {e : Ed} (he : e ∈ outL g i) : (Lit.int .i64 e.2.2).wf = true := by
 have hm := (outL_mem.1 he).1
 cases hr : rightB g
 ·rw [allL_not hr] at hm; cases hm
 ·have := allL_mem ((rightB_iff g).1 hr) hm
  have := h.sS
  exact WalkArith.wf_i64 (by omega)
def CntF (l : List Int) (k : Nat) (f : Int → Option Int) : Prop := ∀ p, 0 ≤ (f p).getD 0 ∧ (f p).getD 0 ≤ (k : Int) ∧ (0 < (f p).getD 0 ↔ p ∈ l.take k)
theorem cntF_zero (l : List Int) : CntF l 0 (fun _ => none) := fun p => ⟨by simp, by simp, by simp⟩
theorem cntF_step {l : List Int} {k : Nat} {f : Int → Option Int} (h : CntF l k f) (hk : k < l.length) : CntF l (k + 1) (fun x => if x = l.getD k 0 then some ((f (l.getD k 0)).getD 0 + 1) else f x) := by
 intro p
 have e : l.take (k + 1) = l.take k ++ [l.getD k 0] := by
  rw [List.take_add_one, List.getD_eq_getElem?_getD, List.getElem?_eq_getElem hk]; rfl
 rw [e]
 obtain ⟨h1, h2, h3⟩ := h (l.getD k 0)
 obtain ⟨g1, g2, g3⟩ := h p
 show 0 ≤ (if p = l.getD k 0 then some ((f (l.getD k 0)).getD 0 + 1) else f p).getD 0 ∧ (if p = l.getD k 0 then some ((f (l.getD k 0)).getD 0 + 1) else f p).getD 0 ≤ ((k + 1 : Nat) : Int) ∧ (0 < (if p = l.getD k 0 then some ((f (l.getD k 0)).getD 0 + 1) else f p).getD 0 ↔ p ∈ l.take k ++ [l.getD k 0])
 by_cases hp : p = l.getD k 0
 ·rw [if_pos hp]
  simp only [Option.getD_some, List.mem_append, List.mem_singleton]
  exact ⟨by omega, by omega, ⟨fun _ => .inr hp, fun _ => by omega⟩⟩
 ·rw [if_neg hp]
  simp only [List.mem_append, List.mem_singleton]
  exact ⟨g1, by omega, ⟨fun q => .inl (g3.1 q), fun q => g3.2 (by rcases q with q | q; exact q; exact absurd q hp)⟩⟩
set_option maxRecDepth 100000 in
set_option maxHeartbeats 8000000 in
theorem cyc_ok (v u : Value) (g : Gr) (l : List Int) (w : World) (h : GraphAt w v g) (hu : IntsAt w u l) (hw : ∀ x ∈ l, (Lit.int .i64 x).wf = true) (hl : l.length ≤ 1000000) :
  Calls Try.prog 33 #[v, u] w fun e w' => e = .returned (.bool (cycB g l)) ∧ Below w.heap.size w w' := by
 obtain ⟨sa, aa, ta, sc, ac, tc, rfl, -⟩ := h.var
 obtain ⟨a, c, rfl, ha⟩ := hu
 have hmm := @run_makeMap Try.prog
 have hb := balloc w (.cells #[.slice sa g.S.length sc, .slice aa g.A.length ac, .slice ta g.T.length tc] 30)
 have OUT := Lib.hid (fun (w' : World) (hw : Below w.heap.size w w') (i : Int) => out_ok _ g i w' (h.below hw))
 have OWF := Lib.hid (fun (i : Int) (e : Ed) (he : e ∈ outL g i) => outL_wf h he)
 have OLEN := Lib.hid (fun (i : Int) => Nat.le_trans (outL_len g i) h.sT)
 have X0 := Lib.hid (heap_alloc_new w (.cells #[.slice sa g.S.length sc, .slice aa g.A.length ac, .slice ta g.T.length tc] 30))
 have hb2 := hb.trans ((balloc (w.alloc (.cells #[.slice sa g.S.length sc, .slice aa g.A.length ac, .slice ta g.T.length tc] 30)) (.map #[] 0)).mono hb.size)
 have M0 := Lib.hid (MapI.made (w.alloc (.cells #[.slice sa g.S.length sc, .slice aa g.A.length ac, .slice ta g.T.length tc] 30)))
 have X1 := Lib.hid (bheap (balloc (w.alloc (.cells #[.slice sa g.S.length sc, .slice aa g.A.length ac, .slice ta g.T.length tc] 30)) (.map #[] 0)) X0.out)
 have HB := Lib.hid hb2
 have HA := Lib.hid ha
 have HW := Lib.hid hw
 rw [World.size_alloc] at M0
 clear h hb hb2 ha hw X0
 go_enter Try.func33, Try.ntmps33
 go_wp2_with fail
 go_loopg [15] l.length (fun fu c wr => ∃ (k m sz : Nat) (f : Int → Option Int), k + fu = l.length ∧ c = .int .i64 k ∧ m ≤ k ∧ CntF l k f ∧ MapI wr (w.heap.size + 1) m f sz ∧ Below w.heap.size w wr ∧ wr.heap[w.heap.size]? = some (.cells #[.slice sa g.S.length sc, .slice aa g.A.length ac, .slice ta g.T.length tc] 30))
 case atStart => exact ⟨0, 0, 0, _, by omega, rfl, Nat.le_refl _, cntF_zero l, M0.out, HB.out, X1.out⟩
 case round =>
  clear M0 HB X1
  obtain ⟨k, m, sz, f, hk, rfl, hm, hf, hM, hb, hx⟩ := hrel
  by_cases hlt : k < l.length
  ·obtain ⟨b1, o1, rfl, d1⟩ := HA.out k hlt
   have y1 := bkeep hb d1
   have z1 : (k : Int) < (l.length : Int) := by omega
   have hst := cntF_step hf hlt
   have hwf := HW.out _ (getD_mem hlt)
   have hfp := hf (l.getD k 0)
   generalize l.getD k 0 = p at *
   have hwr : IntKind.i64.wrap ((f p).getD 0 + 1) = (f p).getD 0 + 1 := IntWalk.i64_in _ (by omega)
   have HM := Lib.hid hM
   have HWF := Lib.hid hwf
   have HST := Lib.hid hst
   have HB := Lib.hid hb
   have HX := Lib.hid hx
   have HWP : Hid ((Lit.int .i64 ((f p).getD 0 + 1)).wf = true) := Lib.hid (WalkArith.wf_i64 (by omega))
   clear d1 hst hwf hfp hM hb hx hf
   go_wp2_with (first
    | (at_lookup; refine wp_look HM.out rfl rfl rfl rfl HWF.out ?_)
    | (at_mapUpdate; refine wp_mput HM.out (by unfold maxLen; omega) rfl rfl rfl rfl (by first | rfl | rw [hwr]; rfl) HWF.out HWP.out ?_; intro w2 hm2 hg2; have HM2 := Lib.hid hm2; have HB2 := Lib.hid (HB.out.grown hg2 HB.out.size (fun k hk => by cases hk; omega)); have HX2 := Lib.hid (hg2.block w.heap.size (by have := (Array.getElem?_eq_some_iff.1 HX.out).1; exact this) (by simp)); clear hm2 hg2))
   go_roundg (l.length - (k + 1))
   case measure => omega
   case rel => exact ⟨k + 1, m + 1, _, _, by omega, by simp, by omega, HST.out, HM2.out, HB2.out, HX2.out.trans HX.out⟩
  ·obtain rfl : k = l.length := by omega
   have HF := Lib.hid hf
   have HM := Lib.hid hM
   have HB := Lib.hid hb
   have HX := Lib.hid hx
   clear hf hM hb hx
   have HNO : Hid ((∀ j, j < l.length → ∀ e ∈ outL g (l.getD j 0), e.2.2 ∉ l) → cycB g l = false) := Lib.hid (fun hall => by
    unfold cycB
    refine decide_eq_false ?_
    rintro ⟨e, he, h1, h2⟩
    obtain ⟨j, hj, hje⟩ := List.getElem_of_mem h1
    refine hall j hj e (outL_mem.2 ⟨he, ?_⟩) h2
    rw [List.getD_eq_getElem?_getD, List.getElem?_eq_getElem hj]; simpa using hje.symm)
   have HYES : Hid (∀ j, j < l.length → ∀ e ∈ outL g (l.getD j 0), e.2.2 ∈ l → cycB g l = true) := Lib.hid (fun j hj e he h2 => by
    unfold cycB
    obtain ⟨h3, h4⟩ := outL_mem.1 he
    exact decide_eq_true ⟨e, h3, by rw [h4]; exact getD_mem hj, h2⟩)
   obtain ⟨W1, rfl⟩ : ∃ z : World, z = wr := ⟨_, rfl⟩
   go_wp2_with fail
   go_loopg [26] l.length (fun fu c wr => ∃ k : Nat, k + fu = l.length ∧ c = .int .i64 k ∧ (∀ j, j < k → ∀ e ∈ outL g (l.getD j 0), e.2.2 ∉ l) ∧ Below W1.heap.size W1 wr)
   case atStart => exact ⟨0, by omega, rfl, fun j hj => by omega, Below.refl _ _⟩
   case round =>
    obtain ⟨k, hk, rfl, hall, hbr⟩ := hrel
    by_cases hlt2 : k < l.length
    ·obtain ⟨b1, o1, rfl, d1⟩ := HA.out k hlt2
     have hbw := HB.out.trans (hbr.mono HB.out.size)
     have y1 := bkeep hbw d1
     have z1 : (k : Int) < (l.length : Int) := by omega
     have hx2 := bheap hbr HX.out
     have c0 := cell_of_block hx2 0 _ rfl
     have c1 := cell_of_block hx2 1 _ rfl
     have c2 := cell_of_block hx2 2 _ rfl
     have HO := Lib.hid (OUT.out wr hbw (l.getD k 0))
     have HBR := Lib.hid hbr
     have HY2 := Lib.hid (HYES.out k hlt2)
     have HAL := Lib.hid hall
     have HNX : Hid ((∀ e ∈ outL g (l.getD k 0), e.2.2 ∉ l) → ∀ j, j < k + 1 → ∀ e ∈ outL g (l.getD j 0), e.2.2 ∉ l) := Lib.hid (fun hne j hj => by
      by_cases e : j = k
      ·rw [e]; exact hne
      ·exact HAL.out j (by omega))
     have HWE := Lib.hid (OWF.out (l.getD k 0))
     have hol := OLEN.out (l.getD k 0)
     clear d1 hx2 hall hbr hbw
     generalize outL g (l.getD k 0) = el at *
     generalize l.getD k 0 = p at *
     go_wp2_with (go_at_call 31; refine HO.out.mono ?_; rintro e w3 ⟨rv, rfl, hE, hb3⟩; obtain ⟨ea, ec, rfl, hE⟩ := hE; have HED := Lib.hid hE; have HB3 := Lib.hid (HBR.out.trans (hb3.mono HBR.out.size)); clear hb3 hE)
     clear c0 c1 c2 y1
     go_loopg [34] el.length (fun fu c wr => ∃ r : Nat, r + fu = el.length ∧ c = .int .i64 r ∧ (∀ j, j < r → (el.getD j (0, 0, 0)).2.2 ∉ l) ∧ Below w3.heap.size w3 wr)
     case atStart => exact ⟨0, by omega, rfl, fun j hj => by omega, Below.refl _ _⟩
     case round =>
      obtain ⟨r, hr, rfl, hall2, hbr2⟩ := hrel
      by_cases hlt3 : r < el.length
      ·obtain ⟨b3, o3, rfl, e1, e2, e3⟩ := HED.out r hlt3
       have y1 := bkeep hbr2 e1
       have y2 := bkeep hbr2 e2
       have y3 := bkeep hbr2 e3
       have z3 : (r : Int) < (el.length : Int) := by omega
       have hin : el.getD r (0, 0, 0) ∈ el := by rw [List.getD_eq_getElem?_getD, List.getElem?_eq_getElem hlt3]; simp
       have HZ := Lib.hid (HWE.out _ hin)
       have HC := Lib.hid (HY2.out _ hin)
       have HAL2 := Lib.hid hall2
       have HNX2 : Hid ((el.getD r (0, 0, 0)).2.2 ∉ l → ∀ j, j < r + 1 → (el.getD j (0, 0, 0)).2.2 ∉ l) := Lib.hid (fun hne j hj => by
        by_cases e : j = r
        ·rw [e]; exact hne
        ·exact HAL2.out j (by omega))
       clear e1 e2 e3 hin hall2
       generalize el.getD r (0, 0, 0) = ed at *
       obtain ⟨ex, ey, ez⟩ := ed
       have hb4 := HB3.out.trans ((hbr2.trans ((balloc wr (.cells #[.int .i64 ex, .int .i64 ey, .int .i64 ez] 65)).mono hbr2.size)).mono HB3.out.size)
       have HB4 := Lib.hid ((hbr2.trans ((balloc wr (.cells #[.int .i64 ex, .int .i64 ey, .int .i64 ez] 65)).mono hbr2.size)))
       have HM4 := Lib.hid (MapI.more HM.out hb4)
       have hpos := (HF.out ez).2.2
       rw [List.take_length] at hpos
       have HPOS := Lib.hid hpos
       have HB5 := Lib.hid (HB.out.trans (hb4.mono HB.out.size))
       clear hb4 hpos hbr2
       by_cases hz : ez ∈ l
       ·have hz2 := HPOS.out.2 hz
        go_wp2_with (at_lookup; refine wp_look HM4.out rfl rfl rfl rfl HZ.out ?_)
        go_ret
        exact ⟨by rw [HC.out hz]; rfl, HB5.out⟩
       ·have hz2 : ¬ 0 < (f ez).getD 0 := fun q => hz (HPOS.out.1 q)
        go_wp2_with (at_lookup; refine wp_look HM4.out rfl rfl rfl rfl HZ.out ?_)
        go_roundg (el.length - (r + 1))
        case measure => omega
        case rel => exact ⟨r + 1, by omega, by simp, HNX2.out hz, HB4.out⟩
      ·obtain rfl : r = el.length := by omega
       have hne : ∀ e ∈ el, e.2.2 ∉ l := fun e he => by
        obtain ⟨j, hj, rfl⟩ := List.getElem_of_mem he
        have := hall2 j hj
        rwa [List.getD_eq_getElem?_getD, List.getElem?_eq_getElem hj] at this
       go_wp2_with fail
       go_roundg (l.length - (k + 1))
       case measure => omega
       case rel => exact ⟨k + 1, by omega, by simp, HNX.out hne, HB3.out.trans (hbr2.mono HB3.out.size)⟩
    ·obtain rfl : k = l.length := by omega
     have HE := Lib.hid (HNO.out hall)
     go_wp2_with fail
     go_ret
     exact ⟨by rw [HE.out]; rfl, HB.out.trans (hbr.mono HB.out.size)⟩
end Go.Proofs.Ytlhpjfnfemebdaa
namespace Go.Proofs.Ytlhpjfnfemebdaa
open Go.RowKit Go.Maps
theorem MapI.off {w : World} {b n sz : Nat} {f : Int → Option Int} (h : MapI w b n f sz) {p : Addr} {v : Value} (hc : w.cell? p = some v) : p.block ≠ b := by
 rintro rfl
 obtain ⟨D, ⟨es, c, h0, -⟩, -⟩ := h
 simp [World.cell?, h0] at hc
theorem EdgesAt.mapUpd {w w' : World} {ob n sz : Nat} {f : Int → Option Int} {v : Value} {l : List Ed} (h : EdgesAt w v l) (hm : MapI w ob n f sz) (hg : w.grownBy w' (some ob)) : EdgesAt w' v l := by
 obtain ⟨a, cap, e, h⟩ := h
 refine ⟨a, cap, e, fun j hj => ?_⟩
 obtain ⟨b, off, e, h1, h2, h3⟩ := h j hj
 have k : ∀ (p : Addr) (v : Value), w.cell? p = some v → w'.cell? p = some v := fun p v hc => hg.cell hc (by have := hm.off hc; simpa using this)
 exact ⟨b, off, e, k _ _ h1, k _ _ h2, k _ _ h3⟩
end Go.Proofs.Ytlhpjfnfemebdaa
namespace Go.Proofs.Ytlhpjfnfemebdaa
open Go.RowKit
set_option maxRecDepth 100000 in
set_option maxHeartbeats 4000000 in
theorem has2_ok (v : Value) (l : List Int) (x : Int) (w : World) (h : IntsAt w v l) (hl : l.length ≤ 1000000) :
  Calls Try.prog 79 #[v, .int .i64 x] w fun e w' => e = .returned (.bool (decide (x ∈ l))) ∧ Below w.heap.size w w' := by
 obtain ⟨a, ac, rfl, ha⟩ := h
 have HA := Lib.hid ha
 clear ha
 go_enter Try.func79, Try.ntmps79
 go_wp2_with fail
 go_loopg [5] l.length (fun fu c wr => ∃ k : Nat, k + fu = l.length ∧ c = .int .i64 k ∧ (∀ j, j < k → l.getD j 0 ≠ x) ∧ w = wr)
 case atStart => exact ⟨0, by omega, rfl, fun j hj => by omega, rfl⟩
 case round =>
  obtain ⟨k, hk, rfl, hall, rfl⟩ := hrel
  by_cases hlt : k < l.length
  ·obtain ⟨b1, o1, rfl, d1⟩ := HA.out k hlt
   have z1 : (k : Int) < (l.length : Int) := by omega
   have HM := Lib.hid (show l.getD k 0 ∈ l from getD_mem hlt)
   have HL := Lib.hid hall
   have hnx : l.getD k 0 ≠ x → ∀ j, j < k + 1 → l.getD j 0 ≠ x := fun hne j hj => by
    by_cases e : j = k
    ·rw [e]; exact hne
    ·exact HL.out j (by omega)
   have HN := Lib.hid hnx
   clear hall hnx
   generalize l.getD k 0 = y at *
   by_cases e : y = x
   ·go_wp2_with fail
    go_ret
    exact ⟨by rw [← e, decide_eq_true HM.out]; rfl, Below.refl _ _⟩
   ·go_wp2_with fail
    go_roundg (l.length - (k + 1))
    case measure => omega
    case rel => exact ⟨k + 1, by omega, by simp, HN.out e, rfl⟩
  ·have e : x ∉ l := fun hm => by
    obtain ⟨j, hj, e⟩ := List.getElem_of_mem hm
    refine hall j (by omega) ?_
    rw [List.getD_eq_getElem?_getD, List.getElem?_eq_getElem hj]; simpa using e
   go_wp2_with fail
   go_ret
   exact ⟨by rw [decide_eq_false e]; rfl, Below.refl _ _⟩
def actB (g : Gr) (l : List Int) (a : Int) : Bool := decide (∃ e ∈ allL g, e.2.1 = a ∧ e.1 ∈ l ∧ e.2.2 ∈ l)
set_option maxRecDepth 100000 in
set_option maxHeartbeats 8000000 in
theorem racts_ok (v u : Value) (g : Gr) (l : List Int) (ag : Int) (w : World) (h : GraphAt w v g) (hu : IntsAt w u l) (hl : l.length ≤ 1000000) :
  Calls Try.prog 62 #[v, u, .int .i64 ag] w fun e w' => e = .returned (.bool (actB g l ag)) ∧ Below w.heap.size w w' := by
 obtain ⟨sa, aa, ta, sc, ac, tc, rfl, -⟩ := h.var
 have hb := balloc w (.cells #[.slice sa g.S.length sc, .slice aa g.A.length ac, .slice ta g.T.length tc] 30)
 have RA := Lib.hid (rall_ok _ g _ (h.below hb))
 have HB := Lib.hid hb
 have X0 := Lib.hid (heap_alloc_new w (.cells #[.slice sa g.S.length sc, .slice aa g.A.length ac, .slice ta g.T.length tc] 30))
 have HH := Lib.hid (fun (w' : World) (hw : Below w.heap.size w w') (x : Int) => has2_ok u l x w' (hu.below hw) hl)
 have HE : Hid (∀ k, (∀ j, j < k → ¬ (((allL g).getD j (0, 0, 0)).2.1 = ag ∧ ((allL g).getD j (0, 0, 0)).1 ∈ l ∧ ((allL g).getD j (0, 0, 0)).2.2 ∈ l)) → k = (allL g).length → actB g l ag = false) := Lib.hid (fun k hall hk => by
  unfold actB
  refine decide_eq_false ?_
  rintro ⟨e, he, h0, h1, h2⟩
  obtain ⟨j, hj, rfl⟩ := List.getElem_of_mem he
  refine hall j (by omega) ?_
  rw [List.getD_eq_getElem?_getD, List.getElem?_eq_getElem hj]
  exact ⟨h0, h1, h2⟩)
 have HY : Hid (∀ k, k < (allL g).length → ((allL g).getD k (0, 0, 0)).2.1 = ag → ((allL g).getD k (0, 0, 0)).1 ∈ l → ((allL g).getD k (0, 0, 0)).2.2 ∈ l → actB g l ag = true) := Lib.hid (fun k hk h0 h1 h2 => by
  unfold actB
  refine decide_eq_true ⟨(allL g).getD k (0, 0, 0), ?_, h0, h1, h2⟩
  rw [List.getD_eq_getElem?_getD, List.getElem?_eq_getElem hk]; simp)
 have hal : (allL g).length ≤ 1000000 := by
  cases e : rightB g
  ·rw [allL_not e]; simp
  ·rw [allL_len ((rightB_iff g).1 e)]; exact h.sT
 clear h hb hu hl
 generalize allL g = al at *
 go_enter Try.func62, Try.ntmps62
 go_wp2_with (go_at_call 30; refine RA.out.mono ?_; rintro e w1 ⟨rv, rfl, hE, hb1⟩; obtain ⟨ea, ec, rfl, hE⟩ := hE; have HED := Lib.hid hE; have HB1 := Lib.hid (HB.out.trans (hb1.mono HB.out.size)); clear hb1 hE)
 go_loopg [8] al.length (fun fu c wr => ∃ k : Nat, k + fu = al.length ∧ c = .int .i64 k ∧ (∀ j, j < k → ¬ ((al.getD j (0, 0, 0)).2.1 = ag ∧ (al.getD j (0, 0, 0)).1 ∈ l ∧ (al.getD j (0, 0, 0)).2.2 ∈ l)) ∧ Below w1.heap.size w1 wr)
 case atStart => exact ⟨0, by omega, rfl, fun j hj => by omega, Below.refl _ _⟩
 case round =>
  obtain ⟨k, hk, rfl, hall, hbr⟩ := hrel
  by_cases hlt : k < al.length
  ·obtain ⟨b1, o1, rfl, d1, d2, d3⟩ := HED.out k hlt
   have y2 := bkeep hbr d2
   have y1 := bkeep hbr d1
   have HBR := Lib.hid hbr
   have D3 := Lib.hid d3
   have z1 : (k : Int) < (al.length : Int) := by omega
   have HL := Lib.hid hall
   have hnx : ¬ ((al.getD k (0, 0, 0)).2.1 = ag ∧ (al.getD k (0, 0, 0)).1 ∈ l ∧ (al.getD k (0, 0, 0)).2.2 ∈ l) → ∀ j, j < k + 1 → ¬ ((al.getD j (0, 0, 0)).2.1 = ag ∧ (al.getD j (0, 0, 0)).1 ∈ l ∧ (al.getD j (0, 0, 0)).2.2 ∈ l) := fun hne j hj => by
    by_cases e : j = k
    ·rw [e]; exact hne
    ·exact HL.out j (by omega)
   have HN := Lib.hid hnx
   have HK := Lib.hid (HY.out k hlt)
   clear hall hnx d1 d2 d3 hbr
   generalize al.getD k (0, 0, 0) = ed at *
   obtain ⟨ex, ey, ez⟩ := ed
   have H1 := Lib.hid (HH.out wr (HB1.out.trans (HBR.out.mono HB1.out.size)) ex)
   by_cases hn0 : ¬ ey = ag
   ·go_wp2_with fail
    go_roundg (al.length - (k + 1))
    case measure => omega
    case rel => exact ⟨k + 1, by omega, by simp, HN.out (fun q => hn0 q.1), HBR.out⟩
   have m0 := Decidable.of_not_not hn0
   clear hn0
   by_cases m1 : ex ∈ l
   ·rw [decide_eq_true m1] at H1
    by_cases m2 : ez ∈ l
    ·go_wp2_with (first
      | (go_at_call_of 79 (Value.int .i64 ex); refine H1.out.mono ?_; rintro e w2 ⟨rfl, hb2⟩; have HB2 := Lib.hid (HBR.out.trans (hb2.mono HBR.out.size)); have y3 := bkeep HB2.out D3.out; have H2 := Lib.hid (HH.out w2 (HB1.out.trans (HB2.out.mono HB1.out.size)) ez); rw [decide_eq_true m2] at H2; clear hb2)
      | (go_at_call_of 79 (Value.int .i64 ez); refine H2.out.mono ?_; rintro e w3 ⟨rfl, hb3⟩; have HB3 := Lib.hid (HB2.out.trans (hb3.mono HB2.out.size)); clear hb3))
     go_ret
     exact ⟨by rw [HK.out m0 m1 m2]; rfl, HB1.out.trans (HB3.out.mono HB1.out.size)⟩
    ·go_wp2_with (first
      | (go_at_call_of 79 (Value.int .i64 ex); refine H1.out.mono ?_; rintro e w2 ⟨rfl, hb2⟩; have HB2 := Lib.hid (HBR.out.trans (hb2.mono HBR.out.size)); have y3 := bkeep HB2.out D3.out; have H2 := Lib.hid (HH.out w2 (HB1.out.trans (HB2.out.mono HB1.out.size)) ez); rw [decide_eq_false m2] at H2; clear hb2)
      | (go_at_call_of 79 (Value.int .i64 ez); refine H2.out.mono ?_; rintro e w3 ⟨rfl, hb3⟩; have HB3 := Lib.hid (HB2.out.trans (hb3.mono HB2.out.size)); clear hb3))
     go_roundg (al.length - (k + 1))
     case measure => omega
     case rel => exact ⟨k + 1, by omega, by simp, HN.out (fun q => m2 q.2.2), HB3.out⟩
   ·rw [decide_eq_false m1] at H1
    go_wp2_with (first
      | (go_at_call_of 79 (Value.int .i64 ex); refine H1.out.mono ?_; rintro e w2 ⟨rfl, hb2⟩; have HB2 := Lib.hid (HBR.out.trans (hb2.mono HBR.out.size)); clear hb2))
    go_roundg (al.length - (k + 1))
    case measure => omega
    case rel => exact ⟨k + 1, by omega, by simp, HN.out (fun q => m1 q.2.1), HB2.out⟩
  ·obtain rfl : k = al.length := by omega
   have e := HE.out _ hall rfl
   go_wp2_with fail
   go_ret
   exact ⟨by rw [e]; rfl, HB1.out.trans (hbr.mono HB1.out.size)⟩
end Go.Proofs.Ytlhpjfnfemebdaa
namespace Go.Proofs.Ytlhpjfnfemebdaa
open Go.RowKit
def BRowsAt (w : World) (v : Value) (rows : List (List Bool)) : Prop :=
 ∃ a cap, v = .slice a rows.length cap ∧ ∀ j, j < rows.length → ∃ b off u, a = some ⟨b, off, none⟩ ∧ w.cell? ⟨b, off + j, none⟩ = some u ∧ BoolsAt w u (rows.getD j [])
theorem BRowsAt.below {w w' : World} {v : Value} {rows : List (List Bool)} (h : BRowsAt w v rows) (hb : Below w.heap.size w w') : BRowsAt w' v rows := by
 obtain ⟨a, cap, e, h⟩ := h
 refine ⟨a, cap, e, fun j hj => ?_⟩
 obtain ⟨b, off, u, e, h1, h2⟩ := h j hj
 exact ⟨b, off, u, e, bkeep hb h1, h2.below hb⟩
structure RT (g : Gr) (en : List (List Bool)) (ag : Int) : Prop where
 right : Rt g
 h0 : 0 ≤ ag
 h1 : ag ≤ 100
 len : en.length = nodesN g
 rows : ∀ i, i < en.length → ((en.getD i []).length : Int) = ag
 edges : ∀ e ∈ allL g, e.2.1 < ag ∧ (en.getD e.1.toNat []).getD e.2.1.toNat false = true
open Classical in
noncomputable def rtB (g : Gr) (en : List (List Bool)) (ag : Int) : Bool := decide (RT g en ag)
open Classical in
theorem rtB_not {g : Gr} {en : List (List Bool)} {ag : Int} (h : ¬ RT g en ag) : rtB g en ag = false := decide_eq_false h
open Classical in
theorem rtB_yes {g : Gr} {en : List (List Bool)} {ag : Int} (h : RT g en ag) : rtB g en ag = true := decide_eq_true h
theorem RT.wf {g : Gr} {en : List (List Bool)} {ag : Int} (h : RT g en ag) : ∀ e ∈ allL g, (Lit.int .i64 e.2.1).wf = true := fun e he => by
 have h1 := (h.edges e he).1
 have h2 := allL_mem h.right he
 have h3 := h.h1
 exact WalkArith.wf_i64 (by omega)
set_option maxRecDepth 100000 in
set_option maxHeartbeats 16000000 in
theorem rrt_ok (v u : Value) (g : Gr) (en : List (List Bool)) (ag : Int) (w : World) (h : GraphAt w v g) (hu : BRowsAt w u en) :
  Calls Try.prog 37 #[v, u, .int .i64 ag] w fun e w' => e = .returned (.bool (rtB g en ag)) ∧ Below w.heap.size w w' := by
 obtain ⟨sa, aa, ta, sc, ac, tc, rfl, -⟩ := h.var
 have hb := balloc w (.cells #[.slice sa g.S.length sc, .slice aa g.A.length ac, .slice ta g.T.length tc] 30)
 have RR := Lib.hid (rright_ok _ g _ (h.below hb))
 have RN := Lib.hid (fun (w' : World) (hw : Below w.heap.size w w') => rnodes_ok _ g w' (h.below hw))
 have RA := Lib.hid (fun (w' : World) (hw : Below w.heap.size w w') => rall_ok _ g w' (h.below hw))
 have HB := Lib.hid hb
 have X0 := Lib.hid (heap_alloc_new w (.cells #[.slice sa g.S.length sc, .slice aa g.A.length ac, .slice ta g.T.length tc] 30))
 have HU := Lib.hid hu
 obtain ⟨ua, uc, rfl, hrow⟩ := hu
 have HRW := Lib.hid hrow
 cases hr : rightB g
 ·have E := Lib.hid (rtB_not (g := g) (en := en) (ag := ag) (fun q => by rw [(rightB_iff g).2 q.right] at hr; cases hr))
  rw [hr] at RR
  rw [E.out]
  clear h hb hr hrow
  go_enter Try.func37, Try.ntmps37
  go_wp2_with (go_at_call 50; refine RR.out.mono ?_; rintro e w1 ⟨rfl, hb1⟩; have HB1 := Lib.hid (HB.out.trans (hb1.mono HB.out.size)); clear hb1)
  go_ret
  exact ⟨rfl, HB1.out⟩
 rw [hr] at RR
 have hR := (rightB_iff g).1 hr
 by_cases h0 : ag < 0
 ·have E := Lib.hid (rtB_not (g := g) (en := en) (ag := ag) (fun q => by have := q.h0; omega))
  rw [E.out]
  clear h hb hr hrow
  go_enter Try.func37, Try.ntmps37
  go_wp2_with (go_at_call 50; refine RR.out.mono ?_; rintro e w1 ⟨rfl, hb1⟩; have HB1 := Lib.hid (HB.out.trans (hb1.mono HB.out.size)); clear hb1)
  go_ret
  exact ⟨rfl, HB1.out⟩
 by_cases h1 : 100 < ag
 ·have E := Lib.hid (rtB_not (g := g) (en := en) (ag := ag) (fun q => by have := q.h1; omega))
  rw [E.out]
  clear h hb hr hrow
  go_enter Try.func37, Try.ntmps37
  go_wp2_with (go_at_call 50; refine RR.out.mono ?_; rintro e w1 ⟨rfl, hb1⟩; have HB1 := Lib.hid (HB.out.trans (hb1.mono HB.out.size)); clear hb1)
  go_ret
  exact ⟨rfl, HB1.out⟩
 by_cases hlen0 : ¬ en.length = nodesN g
 ·have E := Lib.hid (rtB_not (g := g) (en := en) (ag := ag) (fun q => hlen0 q.len))
  rw [E.out]
  have hl2 : ¬ (en.length : Int) = (nodesN g : Int) := by omega
  clear h hb hr hrow
  generalize nodesN g = n at *
  have hl3 : ((en.length : Int) != (n : Int)) = true := by rw [bne_iff_ne]; exact hl2
  go_enter Try.func37, Try.ntmps37
  go_wp2_with (first
   | (go_at_call 50; refine RR.out.mono ?_; rintro e w1 ⟨rfl, hb1⟩; have HB1 := Lib.hid (HB.out.trans (hb1.mono HB.out.size)); have HX1 := Lib.hid (bheap hb1 X0.out); have c0 := cell_of_block HX1.out 0 _ rfl; have c1 := cell_of_block HX1.out 1 _ rfl; have c2 := cell_of_block HX1.out 2 _ rfl; clear hb1)
   | (go_at_call 55; refine (RN.out _ HB1.out).mono ?_; rintro e w2 ⟨rfl, hb2⟩; have HB2 := Lib.hid (HB1.out.trans (hb2.mono HB1.out.size)); clear hb2))
  go_ret
  exact ⟨rfl, HB2.out⟩
 have hlen := Decidable.of_not_not hlen0
 clear hlen0
 have hsz := h.sS
 have hsT := h.sT
 have hnn := nodesN_right hR
 have hne := hR.ne
 have AL : Hid ((allL g).length ≤ 1000000) := Lib.hid (by rw [allL_len hR]; exact hsT)
 have hel : en.length ≤ 1000000 := by omega
 have HLEN := Lib.hid hlen
 have OE := Lib.hid (fun e (he : e ∈ allL g) => allL_mem hR he)
 have HRT := Lib.hid (fun (h2 : ∀ i, i < en.length → ((en.getD i []).length : Int) = ag) (h3 : ∀ e ∈ allL g, e.2.1 < ag ∧ (en.getD e.1.toNat []).getD e.2.1.toNat false = true) => rtB_yes (g := g) (en := en) (ag := ag) ⟨hR, by omega, by omega, hlen, h2, h3⟩)
 have HNR := Lib.hid (fun i (hi : i < en.length) (h2 : ¬ ((en.getD i []).length : Int) = ag) => rtB_not (g := g) (en := en) (ag := ag) (fun q => h2 (q.rows i hi)))
 have HNE := Lib.hid (fun e (he : e ∈ allL g) (h2 : ¬ (e.2.1 < ag ∧ (en.getD e.1.toNat []).getD e.2.1.toNat false = true)) => rtB_not (g := g) (en := en) (ag := ag) (fun q => h2 (q.edges e he)))
 have HNN := Lib.hid (show nodesN g = g.S.length - 1 from hnn)
 clear h hb hr hrow hR
 rw [← hlen] at RN
 clear hlen hnn hne hsz hsT
 have nl := ne_false (en.length : Int)
 have nl2 : ((en.length : Int) != (en.length : Int)) = false := by simp
 go_enter Try.func37, Try.ntmps37
 go_wp2_with (first
   | (go_at_call 50; refine RR.out.mono ?_; rintro e w1 ⟨rfl, hb1⟩; have HB1 := Lib.hid (HB.out.trans (hb1.mono HB.out.size)); have HX1 := Lib.hid (bheap hb1 X0.out); have c0 := cell_of_block HX1.out 0 _ rfl; have c1 := cell_of_block HX1.out 1 _ rfl; have c2 := cell_of_block HX1.out 2 _ rfl; clear hb1)
   | (go_at_call 55; refine (RN.out _ HB1.out).mono ?_; rintro e w2 ⟨rfl, hb2⟩; have HB2 := Lib.hid (HB1.out.trans (hb2.mono HB1.out.size)); have HX2 := Lib.hid (bheap hb2 HX1.out); clear hb2))
 clear c0 c1 c2
 go_loopg [7] en.length (fun fu c wr => ∃ i : Nat, i + fu = en.length ∧ c = .int .i64 i ∧ (∀ j, j < i → ((en.getD j []).length : Int) = ag) ∧ w2 = wr)
 case atStart => exact ⟨0, by omega, rfl, fun j hj => by omega, rfl⟩
 case round =>
  obtain ⟨i, hi, rfl, hall, rfl⟩ := hrel
  by_cases hlt : i < en.length
  ·obtain ⟨b, off, uu, rfl, c1, r1⟩ := HRW.out i hlt
   obtain ⟨ra, rc, rfl, -⟩ := r1
   have y1 := bkeep HB2.out c1
   have z1 : (i : Int) < (en.length : Int) := by omega
   have HAL := Lib.hid hall
   have HNI := Lib.hid (HNR.out i hlt)
   have HNX : Hid (((en.getD i []).length : Int) = ag → ∀ j, j < i + 1 → ((en.getD j []).length : Int) = ag) := Lib.hid (fun hne j hj => by
    by_cases e : j = i
    ·rw [e]; exact hne
    ·exact HAL.out j (by omega))
   clear c1 hall
   generalize (en.getD i []).length = rl at *
   by_cases hrl : (rl : Int) = ag
   ·have n3 : ((rl : Int) != ag) = false := by rw [hrl]; simp
    go_wp2_with fail
    go_roundg (en.length - (i + 1))
    case measure => omega
    case rel => exact ⟨i + 1, by omega, by simp, HNX.out hrl, rfl⟩
   ·have E := Lib.hid (HNI.out hrl)
    have n3 : ((rl : Int) != ag) = true := by rw [bne_iff_ne]; exact hrl
    go_wp2_with fail
    go_ret
    exact ⟨by rw [E.out]; rfl, HB2.out⟩
  ·obtain rfl : i = en.length := by omega
   have HALL := Lib.hid hall
   have c0 := cell_of_block HX2.out 0 _ rfl
   have c1 := cell_of_block HX2.out 1 _ rfl
   have c2 := cell_of_block HX2.out 2 _ rfl
   have HAC := Lib.hid (RA.out _ HB2.out)
   clear hall
   go_wp2_with (go_at_call 30; refine HAC.out.mono ?_; rintro e w3 ⟨lv, rfl, hE, hb3⟩; obtain ⟨la, lc, rfl, hE⟩ := hE; have HED := Lib.hid hE; have HB3 := Lib.hid (HB2.out.trans (hb3.mono HB2.out.size)); clear hb3 hE)
   clear c0 c1 c2
   have hal := AL.out
   have HRTX : Hid ((∀ j, j < (allL g).length → ((allL g).getD j (0, 0, 0)).2.1 < ag ∧ (en.getD ((allL g).getD j (0, 0, 0)).1.toNat []).getD ((allL g).getD j (0, 0, 0)).2.1.toNat false = true) → rtB g en ag = true) := Lib.hid (fun h => HRT.out HALL.out (fun e he => by
    obtain ⟨j, hj, rfl⟩ := List.getElem_of_mem he
    have := h j hj
    rwa [List.getD_eq_getElem?_getD, List.getElem?_eq_getElem hj] at this))
   have HIN : Hid (∀ j, j < (allL g).length → (allL g).getD j (0, 0, 0) ∈ allL g) := Lib.hid (fun j hj => by
    rw [List.getD_eq_getElem?_getD, List.getElem?_eq_getElem hj]; simp)
   generalize allL g = al at *
   go_loopg [9] al.length (fun fu c wr => ∃ k : Nat, k + fu = al.length ∧ c = .int .i64 k ∧ (∀ j, j < k → (al.getD j (0, 0, 0)).2.1 < ag ∧ (en.getD (al.getD j (0, 0, 0)).1.toNat []).getD (al.getD j (0, 0, 0)).2.1.toNat false = true) ∧ Below w3.heap.size w3 wr)
   case atStart => exact ⟨0, by omega, rfl, fun j hj => by omega, Below.refl _ _⟩
   case round =>
    obtain ⟨k, hk, rfl, hall, hbr⟩ := hrel
    by_cases hlt : k < al.length
    ·obtain ⟨be, oe, rfl, e1, e2, e3⟩ := HED.out k hlt
     have y1 := bkeep hbr e1
     have y2 := bkeep hbr e2
     have z1 : (k : Int) < (al.length : Int) := by omega
     have hm := OE.out _ (HIN.out k hlt)
     have HAL := Lib.hid hall
     have HNI := Lib.hid (HNE.out _ (HIN.out k hlt))
     have HNX : Hid (((al.getD k (0, 0, 0)).2.1 < ag ∧ (en.getD (al.getD k (0, 0, 0)).1.toNat []).getD (al.getD k (0, 0, 0)).2.1.toNat false = true) → ∀ j, j < k + 1 → (al.getD j (0, 0, 0)).2.1 < ag ∧ (en.getD (al.getD j (0, 0, 0)).1.toNat []).getD (al.getD j (0, 0, 0)).2.1.toNat false = true) := Lib.hid (fun hne j hj => by
      by_cases e : j = k
      ·rw [e]; exact hne
      ·exact HAL.out j (by omega))
     have HB4 := Lib.hid (HB3.out.trans (hbr.mono HB3.out.size))
     have HBR := Lib.hid hbr
     clear e1 e2 e3 hall hbr
     generalize al.getD k (0, 0, 0) = ed at *
     obtain ⟨ex, ey, ez⟩ := ed
     obtain ⟨h1, h2, h3, h4, h5⟩ := hm
     simp only at h1 h2 h3 h4 h5 y1 y2 HNI HNX
     obtain ⟨a, rfl⟩ : ∃ a : Nat, ex = (a : Int) := ⟨ex.toNat, by omega⟩
     obtain ⟨b, rfl⟩ : ∃ b : Nat, ey = (b : Int) := ⟨ey.toNat, by omega⟩
     simp only [Int.toNat_natCast] at HNI HNX
     have ha : a < en.length := by have := HNN.out; have := HLEN.out; omega
     have z2 : (a : Int) < (en.length : Int) := by omega
     obtain ⟨b5, o5, uu, rfl, c5, r5⟩ := HRW.out a ha
     have hra := HALL.out a ha
     by_cases hb : (b : Int) < ag
     ·have hb2 : b < (en.getD a []).length := by omega
      obtain ⟨ra, rc, rfl, r5⟩ := r5
      obtain ⟨b6, o6, rfl, d6⟩ := r5 b hb2
      have y5 := bkeep HB4.out c5
      have y6 := bkeep HB4.out d6
      have z3 : (b : Int) < ((en.getD a []).length : Int) := by omega
      clear c5 r5 d6 hra
      cases hx : (en.getD a []).getD b false
      ·have E := Lib.hid (HNI.out (fun q => by rw [hx] at q; exact absurd q.2 (by simp)))
       rw [hx] at y6
       clear hx
       generalize (en.getD a []).length = rl at *
       go_wp2_with fail
       (refine region_still (by kernel_rfl) (by kernel_rfl) ?_; (repeat still_step); refine wpStill_nil ?_)
       go_wp2_with fail
       go_ret
       exact ⟨by rw [E.out]; rfl, HB4.out.drew⟩
      ·have E := Lib.hid (HNX.out ⟨hb, hx⟩)
       rw [hx] at y6
       clear hx
       generalize (en.getD a []).length = rl at *
       go_wp2_with fail
       (refine region_still (by kernel_rfl) (by kernel_rfl) ?_; (repeat still_step); refine wpStill_nil ?_)
       go_wp2_with fail
       go_roundg (al.length - (k + 1))
       case measure => omega
       case rel => exact ⟨k + 1, by omega, by simp, E.out, by first | exact HBR.out.drew | exact HBR.out⟩
     ·have E := Lib.hid (HNI.out (fun q => hb q.1))
      have hb3 : ag ≤ (b : Int) := by omega
      clear c5 r5 hra
      go_wp2_with fail
      go_quiet (fail)
      go_wp2_with fail
      go_ret
      exact ⟨by rw [E.out]; rfl, by first | exact HB4.out.drew | exact bdrewN HB4.out _⟩
    ·obtain rfl : k = al.length := by omega
     have E := Lib.hid (HRTX.out hall)
     go_wp2_with fail
     go_ret
     exact ⟨by rw [E.out]; rfl, HB3.out.trans (hbr.mono HB3.out.size)⟩
end Go.Proofs.Ytlhpjfnfemebdaa
namespace Go.Proofs.Ytlhpjfnfemebdaa
open Go.RowKit
end Go.Proofs.Ytlhpjfnfemebdaa
namespace Go.Proofs.Ytlhpjfnfemebdaa
open Go.RowKit
def spW (a b : Nat) : Bool := decide (a = b)
def cntKF (en : List (List Bool)) (part : List Int) (a k : Nat) : Nat := ((part.take k).filter (fun i => (en.getD i.toNat []).getD a false)).length
theorem cntK_succ {en : List (List Bool)} {part : List Int} {a k : Nat} (h : k < part.length) : cntKF en part a (k + 1) = if (en.getD (part.getD k 0).toNat []).getD a false = true then cntKF en part a k + 1 else cntKF en part a k := by
 have e : part.take (k + 1) = part.take k ++ [part.getD k 0] := by
  rw [List.take_add_one, List.getD_eq_getElem?_getD, List.getElem?_eq_getElem h]; rfl
 unfold cntKF
 rw [e, List.filter_append, List.length_append]
 generalize part.getD k 0 = p
 by_cases hx : (en.getD p.toNat []).getD a false = true
 ·rw [if_pos hx, List.filter_cons_of_pos (p := fun i : Int => (en.getD i.toNat []).getD a false) hx]; rfl
 ·rw [if_neg hx, List.filter_cons_of_neg (p := fun i : Int => (en.getD i.toNat []).getD a false) hx]; rfl
theorem cntKF_le (en : List (List Bool)) (part : List Int) (a k : Nat) : cntKF en part a k ≤ k := by
 unfold cntKF
 have h1 := List.length_filter_le (fun i : Int => (en.getD i.toNat []).getD a false) (part.take k)
 have h2 : (part.take k).length ≤ k := by rw [List.length_take]; exact Nat.min_le_left _ _
 omega
def cntN (en : List (List Bool)) (part : List Int) (a : Nat) : Nat := cntKF en part a part.length
def spB (g : Gr) (en : List (List Bool)) (sp : Nat → Nat → Bool) (part : List Int) (a : Nat) : Bool := !actB g part a && sp (cntN en part a) part.length
def spK (g : Gr) (en : List (List Bool)) (sp : Nat → Nat → Bool) (part : List Int) (k : Nat) : List Int := ((List.range k).filter (spB g en sp part)).map (fun k : Nat => (k : Int))
def IntsBack (w : World) (l : List Int) (e : Ending) (w' : World) : Prop := ∃ v, e = .returned v ∧ IntsAt w' v l ∧ Below w.heap.size w w'
end Go.Proofs.Ytlhpjfnfemebdaa
namespace Go.Proofs.Ytlhpjfnfemebdaa
open Go.RowKit
set_option maxRecDepth 100000 in
set_option maxHeartbeats 16000000 in
theorem countF_ok (u pv : Value) (en : List (List Bool)) (A k : Nat) (part : List Int) (w : World) (hu : BRowsAt w u en) (hp : IntsAt w pv part)
  (hrows : ∀ i, i < en.length → (en.getD i []).length = A) (hk : k < A) (hin : ∀ x ∈ part, 0 ≤ x ∧ x < (en.length : Int)) (_hel : en.length ≤ 1000000) (hl : part.length ≤ 1000000) :
  Calls Try.prog 61 #[u, pv, .int .i64 (k : Nat)] w fun e w' => e = .returned (.int .i64 (cntN en part k : Nat)) ∧ Below w.heap.size w w' := by
 obtain ⟨ua, uc, rfl, hrow⟩ := hu
 have HRW := Lib.hid hrow
 have HRL := Lib.hid hrows
 have HIN := Lib.hid (fun k (hk : k < part.length) => hin _ (getD_mem hk))
 have KS := Lib.hid (fun j (hj : j < part.length) => cntK_succ (en := en) (a := k) hj)
 have KL := Lib.hid (fun j => cntKF_le en part k j)
 have K0 : Hid (cntKF en part k 0 = 0) := Lib.hid rfl
 obtain ⟨pa, pc, rfl, hpc⟩ := hp
 have HP := Lib.hid hpc
 unfold cntN
 clear hin hrow hrows hpc
 generalize cntKF en part k = CK at *
 obtain ⟨n, hnn⟩ : ∃ n, part.length = n := ⟨_, rfl⟩
 rw [hnn] at HP hl KS HIN ⊢
 clear hnn
 go_enter Try.func61, Try.ntmps61
 go_wp2_with fail
 go_loopg [7, 8] n (fun fu nv c wr => ∃ j : Nat, j + fu = n ∧ c = .int .i64 j ∧ nv = .int .i64 (CK j : Nat) ∧ Below w.heap.size w wr)
 case atStart => exact ⟨0, by omega, rfl, by rw [K0.out]; rfl, Below.refl _ _⟩
 case round =>
  obtain ⟨j, hj, rfl, rfl, hbr⟩ := hrel
  by_cases hlt2 : j < n
  ·have z2 : (j : Int) < (n : Int) := by omega
   obtain ⟨b1, o1, rfl, d1⟩ := HP.out j hlt2
   have hi := HIN.out j hlt2
   have hks := KS.out j hlt2
   have hkl := KL.out j
   have y1 := bkeep hbr d1
   clear d1
   generalize part.getD j 0 = p at *
   obtain ⟨q, rfl⟩ : ∃ q : Nat, p = (q : Int) := ⟨p.toNat, by omega⟩
   rw [Int.toNat_natCast] at hks
   have hq : q < en.length := by omega
   have z3 : (q : Int) < (en.length : Int) := by omega
   obtain ⟨b2, o2, uu, rfl, c2, r2⟩ := HRW.out q hq
   have hrl := HRL.out q hq
   obtain ⟨ra, rc, rfl, r2⟩ := r2
   rw [hrl] at r2 c2
   obtain ⟨b3, o3, rfl, d3⟩ := r2 k hk
   have y2 := bkeep hbr c2
   have y3 := bkeep hbr d3
   have z4 : (k : Int) < (A : Int) := by omega
   have HKS := Lib.hid hks
   have HBR := Lib.hid hbr
   clear hks c2 d3 r2 hrl hi hbr
   cases hx : (en.getD q []).getD k false
   ·rw [hx] at y3 HKS
    have E := Lib.hid (show CK (j + 1) = CK j by rw [HKS.out]; rfl)
    clear hx
    go_wp2_with fail
    (try (refine region_still (by kernel_rfl) (by kernel_rfl) ?_; (repeat still_step); refine wpStill_nil ?_; go_wp2_with fail))
    go_roundg (n - (j + 1))
    case measure => omega
    case rel => exact ⟨j + 1, by omega, by simp, by rw [E.out], by first | exact HBR.out | exact HBR.out.drew⟩
   ·rw [hx] at y3 HKS
    have E := Lib.hid (show CK (j + 1) = CK j + 1 by rw [HKS.out]; rfl)
    clear hx
    have hwr : IntKind.i64.wrap ((CK j : Int) + 1) = (CK j : Int) + 1 := IntWalk.i64_in _ (by omega)
    go_wp2_with fail
    (try (refine region_still (by kernel_rfl) (by kernel_rfl) ?_; (repeat still_step); refine wpStill_nil ?_; go_wp2_with fail))
    go_roundg (n - (j + 1))
    case measure => omega
    case rel => exact ⟨j + 1, by omega, by simp, by rw [E.out]; simp, by first | exact HBR.out | exact HBR.out.drew⟩
  ·obtain rfl : j = n := by omega
   go_wp2_with fail
   go_ret
   exact ⟨rfl, hbr⟩
noncomputable def fairB (g : Gr) (en : List (List Bool)) (sp : Nat → Nat → Bool) (A : Nat) (part : List Int) : Bool := cycB g part && decide ((spK g en sp part A).length = 0)
theorem spK_nil {g : Gr} {en : List (List Bool)} {sp : Nat → Nat → Bool} {part : List Int} {A : Nat} : (spK g en sp part A).length = 0 ↔ ∀ a, a < A → spB g en sp part a = false := by
 unfold spK
 rw [List.length_map, List.length_eq_zero_iff, List.filter_eq_nil_iff]
 constructor
 ·intro h a ha
  have := h a (List.mem_range.2 ha)
  cases hh : spB g en sp part a
  ·rfl
  ·exact absurd hh this
 ·intro h a ha
  rw [h a (List.mem_range.1 ha)]; simp
end Go.Proofs.Ytlhpjfnfemebdaa
namespace Go.Proofs.Ytlhpjfnfemebdaa
open Go.RowKit
theorem decide_all_no {k A : Nat} {p : Nat → Bool} (hk : k < A) (h : p k = true) : ¬ ∀ a, a < A → p a = false := fun q => by rw [q k hk] at h; cases h
set_option maxRecDepth 100000 in
set_option maxHeartbeats 16000000 in
theorem rfair_weak (v u pv : Value) (g : Gr) (en : List (List Bool)) (A : Nat) (part : List Int) (w : World) (h : GraphAt w v g) (hu : BRowsAt w u en) (hp : IntsAt w pv part) (hA : A ≤ 100)
  (hrows : ∀ i, i < en.length → (en.getD i []).length = A) (hin : ∀ x ∈ part, 0 ≤ x ∧ x < (en.length : Int)) (hel : en.length ≤ 1000000) (hl : part.length ≤ 1000000) :
  Calls Try.prog 39 #[v, u, .int .i64 (A : Nat), .int .i64 1, pv] w fun e w' => e = .returned (.bool (fairB g en spW A part)) ∧ Below w.heap.size w w' := by
 obtain ⟨sa, aa, ta, sc, ac, tc, rfl, -⟩ := h.var
 have hb := balloc w (.cells #[.slice sa g.S.length sc, .slice aa g.A.length ac, .slice ta g.T.length tc] 30)
 have HC := Lib.hid (fun (w' : World) (hb : Below w.heap.size w w') (k : Nat) (hk : k < A) => countF_ok u pv en A k part w' (hu.below hb) (hp.below hb) hrows hk hin hel hl)
 have HX := Lib.hid (fun (w' : World) (hb : Below w.heap.size w w') (k : Nat) => racts_ok _ pv g part (k : Int) w' (h.below hb) (hp.below hb) hl)
 have HY := Lib.hid (fun (w' : World) (hb : Below w.heap.size w w') => rcyc_ok _ pv g part w' (h.below hb) (hp.below hb) hl)
 have HB := Lib.hid hb
 have X0 := Lib.hid (heap_alloc_new w (.cells #[.slice sa g.S.length sc, .slice aa g.A.length ac, .slice ta g.T.length tc] 30))
 have SB : Hid (∀ a : Nat, spB g en spW part a = (!actB g part a && spW (cntN en part a) part.length)) := Lib.hid (fun a => rfl)
 have KL := Lib.hid (fun k => cntKF_le en part k part.length)
 obtain ⟨pa, pc, rfl, -⟩ := hp
 obtain ⟨ua, uc, rfl, -⟩ := hu
 have FY : Hid ((∀ a, a < A → spB g en spW part a = false) → fairB g en spW A part = cycB g part) := Lib.hid (fun hh => by unfold fairB; rw [decide_eq_true (spK_nil.2 hh)]; simp)
 have FN : Hid (∀ k, k < A → spB g en spW part k = true → fairB g en spW A part = false) := Lib.hid (fun k hk hh => by unfold fairB; rw [decide_eq_false (fun q => decide_all_no hk hh (spK_nil.1 q))]; simp)
 clear h hb hin hrows
 unfold cntN at HC SB
 generalize fairB g en spW A part = FB at *
 generalize spB g en spW part = SBF at *
 generalize cycB g part = CY at *
 obtain ⟨CK, hCK⟩ : ∃ f : Nat → Nat, (fun a => cntKF en part a part.length) = f := ⟨_, rfl⟩
 have hck : ∀ a, cntKF en part a part.length = CK a := fun a => by rw [← hCK]
 simp only [hck] at HC SB KL
 clear hck hCK
 generalize actB g part = AF at *
 obtain ⟨n, hnn⟩ : ∃ n, part.length = n := ⟨_, rfl⟩
 rw [hnn] at HC HX HY SB KL hl ⊢
 clear hnn
 go_enter Try.func39, Try.ntmps39
 go_wp2_with fail
 go_loopg [11] A (fun fu c wr => ∃ k : Nat, k + fu = A ∧ c = .int .i64 k ∧ (∀ a, a < k → SBF a = false) ∧ Hid (Below (w.alloc (.cells #[.slice sa g.S.length sc, .slice aa g.A.length ac, .slice ta g.T.length tc] 30)).heap.size (w.alloc (.cells #[.slice sa g.S.length sc, .slice aa g.A.length ac, .slice ta g.T.length tc] 30)) wr))
 case atStart => exact ⟨0, by omega, rfl, fun a ha => by omega, Lib.hid (Below.refl _ _)⟩
 case round =>
  obtain ⟨k, hk, rfl, hall, HB0⟩ := hrel
  have HBR := Lib.hid (HB.out.trans (HB0.out.mono HB.out.size))
  have HX0 := Lib.hid (bheap HB0.out X0.out)
  have HAL := Lib.hid hall
  clear hall
  have c0 := cell_of_block HX0.out 0 _ rfl
  have c1 := cell_of_block HX0.out 1 _ rfl
  have c2 := cell_of_block HX0.out 2 _ rfl
  by_cases hlt : k < A
  ·have z1 : (k : Int) < (A : Int) := by omega
   have HC1 := Lib.hid (HC.out wr HBR.out k hlt)
   have hsb := SB.out k
   have hkl := KL.out k
   have HNX : Hid (SBF k = false → ∀ a, a < k + 1 → SBF a = false) := Lib.hid (fun hne a ha => by
    by_cases e : a = k
    ·rw [e]; exact hne
    ·exact HAL.out a (by omega))
   have HFN := Lib.hid (FN.out k hlt)
   have HXX := Lib.hid (fun w' hw' => HX.out w' hw' k)
   obtain ⟨cn, hcn⟩ : ∃ z, CK k = z := ⟨_, rfl⟩
   rw [hcn] at HC1 hsb hkl
   clear hcn
   cases hac : AF (k : Int)
   ·rw [hac] at hsb HXX
    clear hac
    by_cases hs : cn = n
    ·have E := Lib.hid (HFN.out (by rw [hsb]; simp [spW, hs]))
     have z2 : ((cn : Int) == (n : Int)) = true := by simp [hs]
     go_wp2_with (first
      | (go_at_call 61; refine HC1.out.mono ?_; rintro e w1 ⟨rfl, hb1⟩; have HB1 := Lib.hid (HBR.out.trans (hb1.mono HBR.out.size)); have y := bheap hb1 HX0.out; have d0 := cell_of_block y 0 _ rfl; have d1 := cell_of_block y 1 _ rfl; have d2 := cell_of_block y 2 _ rfl; clear hb1 y)
      | (go_at_call 62; refine (HXX.out _ HB1.out).mono ?_; rintro e w2 ⟨rfl, hb2⟩; have HB2 := Lib.hid (HB1.out.trans (hb2.mono HB1.out.size)); clear hb2))
     go_ret
     exact ⟨by rw [E.out]; rfl, HB2.out⟩
    ·have E := Lib.hid (HNX.out (by rw [hsb]; simp [spW, hs]))
     have z2 : ((cn : Int) == (n : Int)) = false := by simp; omega
     go_wp2_with (first
      | (go_at_call 61; refine HC1.out.mono ?_; rintro e w1 ⟨rfl, hb1⟩; have HB1 := Lib.hid (HBR.out.trans (hb1.mono HBR.out.size)); have HB3 := Lib.hid (HB0.out.trans (hb1.mono HB0.out.size)); have y := bheap hb1 HX0.out; have d0 := cell_of_block y 0 _ rfl; have d1 := cell_of_block y 1 _ rfl; have d2 := cell_of_block y 2 _ rfl; clear hb1 y)
      | (go_at_call 62; refine (HXX.out _ HB1.out).mono ?_; rintro e w2 ⟨rfl, hb2⟩; have HB2 := Lib.hid (HB3.out.trans (hb2.mono HB3.out.size)); clear hb2))
     go_roundg (A - (k + 1))
     case measure => omega
     case rel => exact ⟨k + 1, by omega, by simp, E.out, HB2⟩
   ·rw [hac] at hsb HXX
    clear hac
    have E := Lib.hid (HNX.out (by rw [hsb]; rfl))
    go_wp2_with (first
      | (go_at_call 61; refine HC1.out.mono ?_; rintro e w1 ⟨rfl, hb1⟩; have HB1 := Lib.hid (HBR.out.trans (hb1.mono HBR.out.size)); have HB3 := Lib.hid (HB0.out.trans (hb1.mono HB0.out.size)); have y := bheap hb1 HX0.out; have d0 := cell_of_block y 0 _ rfl; have d1 := cell_of_block y 1 _ rfl; have d2 := cell_of_block y 2 _ rfl; clear hb1 y)
      | (go_at_call 62; refine (HXX.out _ HB1.out).mono ?_; rintro e w2 ⟨rfl, hb2⟩; have HB2 := Lib.hid (HB3.out.trans (hb2.mono HB3.out.size)); clear hb2))
    go_roundg (A - (k + 1))
    case measure => omega
    case rel => exact ⟨k + 1, by omega, by simp, E.out, HB2⟩
  ·obtain rfl : k = A := by omega
   have E := Lib.hid (FY.out HAL.out)
   have HY1 := Lib.hid (HY.out wr HBR.out)
   go_wp2_with (go_at_call 63; refine HY1.out.mono ?_; rintro e w1 ⟨rfl, hb1⟩; have HB1 := Lib.hid (HBR.out.trans (hb1.mono HBR.out.size)); clear hb1)
   go_ret
   exact ⟨by rw [E.out]; rfl, HB1.out⟩
end Go.Proofs.Ytlhpjfnfemebdaa
