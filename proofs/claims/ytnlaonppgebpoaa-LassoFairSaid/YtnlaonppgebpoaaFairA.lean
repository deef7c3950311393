/-
  fair.of, acting, Acts: the walks. Maps of a named type. fair.Acts, ref18.Acts: the walks. Tables: who is enabled where. fair.right, ref18.Right: the walks. fair.right: the walk. Modes of fairness; fair.spoilers, ref18.count: the walks. ref18.count; fair of both: the walks. ref18.fair in both modes: the walks.
-/
import Derived.Test.YtnlaonppgebpoaaCyclic
import Derived.Test.YtnlaonppgebpoaaSccLaw
namespace Go.Proofs.Ytnlaonppgebpoaa
open Go.RowKit Go.Maps

section
variable {w w' : World} {b n sz : Nat} {f : Int → Option Int} {ops : Array Oper} {rest : List Oper} {o : Oper} {a : Act} {Q : Exit → Act → World → Prop}
theorem wp_lookT {T : TypeId} (ht : Try.prog.underlying T = some (.map 3 3)) (h : MapI w b n f sz) (hg : o.guard = none) {m x : Operand} (hop : o.op = Op.lookup T m x false) (hm : a.eval m = .map (some b)) {k : Int} (hx : a.eval x = .int .i64 k) (hw : (Lit.int .i64 k).wf = true)
    (hK : wpList Try.prog ops Q rest (a.put o.dst (.int .i64 ((f k).getD 0))) w) : wpList Try.prog ops Q (o :: rest) a w := by
  obtain ⟨D, h1, -, h3, -⟩ := h
  refine wpList_lookup_own_int w hg m x T hop 3 3 .i64 law3 ht Try.underlying3 (zero3 w) b n D hm h1 _ (litI k) hx (keyI hw) fun c hat hwc => ?_
  rw [h3 k] at hat
  simp only [DataW.lit.injEq, Lit.int.injEq, true_and] at hat
  rw [← hat]
  exact hK
theorem MapI.putT {T : TypeId} (ht : Try.prog.underlying T = some (.map 3 3)) (h : MapI w b n f sz) (hn : n < maxLen) {k v : Int} (hk : (Lit.int .i64 k).wf = true) (hv : (Lit.int .i64 v).wf = true) :
    ∃ w', (Instr.mapUpdate T (.map (some b)) (.int .i64 k) (.int .i64 v)).run Try.prog w = .ok () w' ∧ MapI w' b (n + 1) (fun x => if x = k then some v else f x) (if (f k).isSome then sz else sz + 1) ∧ w.grownBy w' (some b) := by
  obtain ⟨D, h1, h2, h3, h4⟩ := h
  obtain ⟨w', hr, ho, hg⟩ := h1.update law3 ht hn (keyI hk) (plainElem_int Try.underlying3 hv)
  have htd := h1.tidy law3
  have him := h1.isMap
  refine ⟨w', hr, ⟨_, ho, fun x => ?_, fun x => ?_, ?_⟩, hg⟩
  · show _ = (if x = k then some v else f x).isSome
    by_cases e : x = k
    · rw [if_pos e, e, has_put_same him (litI_key k)]; rfl
    · rw [if_neg e, has_put_other (fun q => e (litI_inj q)), h2]
  · show _ = DataW.lit (Lit.int IntKind.i64 ((if x = k then some v else f x).getD 0))
    by_cases e : x = k
    · rw [if_pos e, e, atKey_put_same him (litI_key k)]; rfl
    · rw [if_neg e, atKey_put_other (fun q => e (litI_inj q)), h3]
  · rw [size_put htd, h2, h4]
theorem wp_mputT {T : TypeId} (ht : Try.prog.underlying T = some (.map 3 3)) (h : MapI w b n f sz) (hn : n < maxLen) (hg : o.guard = none) {m x y : Operand} (hop : o.op = Op.mapUpdate T m x y) (hm : a.eval m = .map (some b)) {k v : Int} (hx : a.eval x = .int .i64 k) (hy : a.eval y = .int .i64 v)
    (hk : (Lit.int .i64 k).wf = true) (hv : (Lit.int .i64 v).wf = true)
    (hK : ∀ w', MapI w' b (n + 1) (fun x => if x = k then some v else f x) (if (f k).isSome then sz else sz + 1) → w.grownBy w' (some b) → wpList Try.prog ops Q rest (a.put o.dst undef) w') : wpList Try.prog ops Q (o :: rest) a w := by
  obtain ⟨w', hr, ho, hgr⟩ := h.putT ht hn hk hv
  refine wpList_plain hg fun K' hK' => ?_
  unfold Oper.wp
  simp [execOp, hop, hm, hx, hy, hr, Result.andThen]
  exact hK' _ _ (hK w' ho hgr)
end
/-- f counts at most N, and is above 0 just where P holds -/
def PosF (N : Nat) (P : Int → Prop) (f : Int → Option Int) : Prop := ∀ p, 0 ≤ (f p).getD 0 ∧ (f p).getD 0 ≤ (N : Int) ∧ (0 < (f p).getD 0 ↔ P p)
theorem posF_zero : PosF 0 (fun _ => False) (fun _ => none) := fun p => ⟨by simp, by simp, by simp⟩
theorem PosF.same {N : Nat} {P P' : Int → Prop} {f : Int → Option Int} (h : PosF N P f) (e : ∀ p, P p ↔ P' p) : PosF N P' f := fun p => ⟨(h p).1, (h p).2.1, (h p).2.2.trans (e p)⟩
theorem PosF.le {N M : Nat} {P : Int → Prop} {f : Int → Option Int} (h : PosF N P f) (e : N ≤ M) : PosF M P f := fun p => ⟨(h p).1, by have := (h p).2.1; omega, (h p).2.2⟩
theorem PosF.step {N : Nat} {P : Int → Prop} {f : Int → Option Int} (h : PosF N P f) (k : Int) : PosF (N + 1) (fun p => p = k ∨ P p) (fun x => if x = k then some ((f k).getD 0 + 1) else f x) := by
  intro p
  obtain ⟨h1, h2, h3⟩ := h k
  obtain ⟨g1, g2, g3⟩ := h p
  show 0 ≤ (if p = k then some ((f k).getD 0 + 1) else f p).getD 0 ∧ (if p = k then some ((f k).getD 0 + 1) else f p).getD 0 ≤ ((N + 1 : Nat) : Int) ∧ (0 < (if p = k then some ((f k).getD 0 + 1) else f p).getD 0 ↔ p = k ∨ P p)
  by_cases hp : p = k
  · rw [if_pos hp]
    simp only [Option.getD_some]
    exact ⟨by omega, by omega, ⟨fun _ => .inl hp, fun _ => by omega⟩⟩
  · rw [if_neg hp]
    exact ⟨g1, by omega, ⟨fun q => .inr (g3.1 q), fun q => g3.2 (by rcases q with q | q; exact absurd q hp; exact q)⟩⟩
/-- a map of the call's own that holds such a count -/
def MapPos (w : World) (B : Nat) (P : Int → Prop) (e : Ending) (w' : World) : Prop :=
  ∃ mb m sz N f, e = .returned (.map (some mb)) ∧ MapI w' mb m f sz ∧ PosF N P f ∧ N ≤ B ∧ w.heap.size ≤ mb ∧ Below w.heap.size w w'

set_option maxRecDepth 100000 in
set_option maxHeartbeats 8000000 in
theorem of_ok (u : Value) (l : List Int) (w : World) (hu : IntsAt w u l) (hw : ∀ x ∈ l, (Lit.int .i64 x).wf = true) (hl : l.length ≤ 1000000) :
    Calls Try.prog 112 #[u] w (MapPos w l.length (fun p => p ∈ l)) := by
  obtain ⟨a, c, rfl, ha⟩ := hu
  have hmm := @run_makeMap Try.prog
  have M0 := Lib.hid (MapI.made w)
  have HB := Lib.hid (balloc w (.map #[] 0))
  have HA := Lib.hid ha
  have HW := Lib.hid hw
  clear ha hw
  go_enter Try.func112, Try.ntmps112
  go_wp2_with fail
  go_loopg [9] l.length (fun fu c wr => ∃ (k m sz : Nat) (f : Int → Option Int), k + fu = l.length ∧ c = .int .i64 k ∧ m ≤ k ∧ PosF k (fun p => p ∈ l.take k) f ∧ MapI wr w.heap.size m f sz ∧ Below w.heap.size w wr)
  case atStart => exact ⟨0, 0, 0, _, by omega, rfl, Nat.le_refl _, posF_zero.same (fun p => by simp), M0.out, HB.out⟩
  case round =>
    clear M0 HB
    obtain ⟨k, m, sz, f, hk, rfl, hm, hf, hM, hb⟩ := hrel
    by_cases hlt : k < l.length
    · obtain ⟨b1, o1, rfl, d1⟩ := HA.out k hlt
      have y1 := bkeep hb d1
      have z1 : (k : Int) < (l.length : Int) := by omega
      have hst := (hf.step (l.getD k 0)).same (P' := fun p => p ∈ l.take (k + 1)) (fun p => by
        have e : l.take (k + 1) = l.take k ++ [l.getD k 0] := by
          rw [List.take_add_one, List.getD_eq_getElem?_getD, List.getElem?_eq_getElem hlt]; rfl
        rw [e, List.mem_append, List.mem_singleton]
        exact Or.comm)
      have hwf := HW.out _ (getD_mem hlt)
      have hfp := hf (l.getD k 0)
      generalize l.getD k 0 = p at *
      have hwr : IntKind.i64.wrap ((f p).getD 0 + 1) = (f p).getD 0 + 1 := IntWalk.i64_in _ (by omega)
      have HM := Lib.hid hM
      have HWF := Lib.hid hwf
      have HST := Lib.hid hst
      have HB := Lib.hid hb
      have HWP : Hid ((Lit.int .i64 ((f p).getD 0 + 1)).wf = true) := Lib.hid (WalkArith.wf_i64 (by omega))
      clear d1 hst hwf hfp hM hb hf
      go_wp2_with (first
        | (at_lookup; refine wp_lookT Try.underlying101 HM.out rfl rfl rfl rfl HWF.out ?_)
        | (at_mapUpdate; refine wp_mputT Try.underlying101 HM.out (by unfold maxLen; omega) rfl rfl rfl rfl (by first | rfl | rw [hwr]; rfl) HWF.out HWP.out ?_; intro w2 hm2 hg2; have HM2 := Lib.hid hm2; have HB2 := Lib.hid (HB.out.grown hg2 HB.out.size (fun k hk => by cases hk; exact Nat.le_refl _)); clear hm2 hg2))
      go_roundg (l.length - (k + 1))
      case measure => omega
      case rel => exact ⟨k + 1, m + 1, _, _, by omega, by simp, by omega, HST.out, HM2.out, HB2.out⟩
    · obtain rfl : k = l.length := by omega
      go_wp2_with fail
      go_ret
      exact ⟨_, _, _, _, f, rfl, hM, hf.same (fun p => by rw [List.take_length]), Nat.le_refl _, Nat.le_refl _, hb⟩
/-- an agent acts in a part -/
def ActP (g : Gr) (l : List Int) (a : Int) : Prop := ∃ e ∈ allL g, e.2.1 = a ∧ e.1 ∈ l ∧ e.2.2 ∈ l
/-- .. by the edges of the first k nodes -/
def ActK (g : Gr) (l : List Int) (k : Nat) (a : Int) : Prop := ∃ j, j < k ∧ ∃ e ∈ outL g (l.getD j 0), e.2.1 = a ∧ e.2.2 ∈ l
theorem actK_all (g : Gr) (l : List Int) (a : Int) : ActK g l l.length a ↔ ActP g l a := by
  constructor
  · rintro ⟨j, hj, e, he, h1, h2⟩
    obtain ⟨h3, h4⟩ := outL_mem.1 he
    exact ⟨e, h3, h1, by rw [h4]; exact getD_mem hj, h2⟩
  · rintro ⟨e, he, h1, h2, h3⟩
    obtain ⟨j, hj, hje⟩ := List.getElem_of_mem h2
    exact ⟨j, hj, e, outL_mem.2 ⟨he, by rw [List.getD_eq_getElem?_getD, List.getElem?_eq_getElem hj]; simpa using hje.symm⟩, h1, h3⟩
theorem actK_succ (g : Gr) (l : List Int) (k : Nat) (a : Int) : ActK g l (k + 1) a ↔ ActK g l k a ∨ ∃ r, r < (outL g (l.getD k 0)).length ∧ ((outL g (l.getD k 0)).getD r (0, 0, 0)).2.1 = a ∧ ((outL g (l.getD k 0)).getD r (0, 0, 0)).2.2 ∈ l := by
  constructor
  · rintro ⟨j, hj, e, he, h1, h2⟩
    by_cases hjk : j = k
    · subst hjk
      obtain ⟨r, hr, rfl⟩ := List.getElem_of_mem he
      refine .inr ⟨r, hr, ?_⟩
      rw [List.getD_eq_getElem?_getD, List.getElem?_eq_getElem hr]
      exact ⟨h1, h2⟩
    · exact .inl ⟨j, by omega, e, he, h1, h2⟩
  · rintro (⟨j, hj, h⟩ | ⟨r, hr, h1, h2⟩)
    · exact ⟨j, by omega, h⟩
    · refine ⟨k, by omega, (outL g (l.getD k 0)).getD r (0, 0, 0), ?_, h1, h2⟩
      generalize outL g (l.getD k 0) = el at *
      rw [List.getD_eq_getElem?_getD, List.getElem?_eq_getElem hr]; simp
/-- its memory: the graph, both maps -/
structure AcM (w wr : World) (gc : Array Value) (mb ob n1 s1 : Nat) (f1 : Int → Option Int) (n2 s2 : Nat) (f2 : Int → Option Int) : Prop where
  below : Below w.heap.size w wr
  vg : wr.heap[w.heap.size]? = some (.cells gc 26 (0, 0))
  m1 : MapI wr mb n1 f1 s1
  m2 : MapI wr ob n2 f2 s2
  ne : mb ≠ ob
  hob : w.heap.size ≤ ob
section
variable {w wr w' : World} {gc : Array Value} {mb ob n1 s1 : Nat} {f1 : Int → Option Int} {n2 s2 : Nat} {f2 : Int → Option Int}
theorem AcM.more (h : AcM w wr gc mb ob n1 s1 f1 n2 s2 f2) (hb : Below wr.heap.size wr w') : AcM w w' gc mb ob n1 s1 f1 n2 s2 f2 :=
  ⟨h.below.trans (hb.mono h.below.size), bheap hb h.vg, h.m1.more hb, h.m2.more hb, h.ne, h.hob⟩
theorem AcM.put (h : AcM w wr gc mb ob n1 s1 f1 n2 s2 f2) {n3 s3 : Nat} {f3 : Int → Option Int} (hm : MapI w' ob n3 f3 s3) (hg : wr.grownBy w' (some ob)) : AcM w w' gc mb ob n1 s1 f1 n3 s3 f3 := by
  have hne : some w.heap.size ≠ some ob := by
    intro e
    simp at e
    exact h.m2.ne h.vg e.symm
  exact ⟨h.below.grown hg h.below.size (fun k hk => by cases hk; exact h.hob), (hg.block _ (Array.getElem?_eq_some_iff.1 h.vg).1 hne).trans h.vg, h.m1.kept hg (by simpa using h.ne), hm, h.ne, h.hob⟩
end

theorem MapI.off {w : World} {b n sz : Nat} {f : Int → Option Int} (h : MapI w b n f sz) {p : Addr} {v : Value} (hc : w.cell? p = some v) : p.block ≠ b := by
  rintro rfl
  obtain ⟨D, ⟨es, c, h0, -⟩, -⟩ := h
  simp [World.cell?, h0] at hc
theorem EdgesAt.mapUpd {w w' : World} {ob n sz : Nat} {f : Int → Option Int} {v : Value} {l : List Ed} (h : EdgesAt w v l) (hm : MapI w ob n f sz) (hg : w.grownBy w' (some ob)) : EdgesAt w' v l := by
  obtain ⟨a, cap, e, h⟩ := h
  refine ⟨a, cap, e, fun j hj => ?_⟩
  obtain ⟨b, off, e, h1, h2, h3⟩ := h j hj
  have k : ∀ (p : Addr) (v : Value), w.cell? p = some v → w'.cell? p = some v := fun p v hc => hg.cell hc (by have := hm.off hc; simpa using this)
  exact ⟨b, off, e, k _ _ h1, k _ _ h2, k _ _ h3⟩

set_option maxRecDepth 100000 in
set_option maxHeartbeats 8000000 in
theorem acting_ok (v u : Value) (g : Gr) (l : List Int) (w : World) (h : GraphAt w v g) (hu : IntsAt w u l) (hw : ∀ x ∈ l, (Lit.int .i64 x).wf = true) (hl : l.length ≤ 1000000) (hA : ∀ e ∈ allL g, (Lit.int .i64 e.2.1).wf = true) :
    Calls Try.prog 97 #[v, u] w (MapPos w (l.length * 1000000) (ActP g l)) := by
  obtain ⟨C, hC⟩ : ∃ C, 1000000 = C := ⟨_, rfl⟩
  obtain ⟨sa, aa, ta, sc, ac, tc, rfl, -⟩ := h.var
  have hb := balloc w (.cells #[.slice sa g.S.length sc, .slice aa g.A.length ac, .slice ta g.T.length tc] 26)
  have OF := Lib.hid (of_ok u l _ (hu.below hb) hw hl)
  obtain ⟨a, c, rfl, ha⟩ := hu
  have hmm := @run_makeMap Try.prog
  have OUT := Lib.hid (fun (w' : World) (hw : Below w.heap.size w w') (i : Int) => out_ok _ g i w' (h.below hw))
  have OWF := Lib.hid (fun (i : Int) (e : Ed) (he : e ∈ outL g i) => And.intro (outL_wf h he) (hA e (outL_mem.1 he).1))
  have OLEN := Lib.hid (fun (i : Int) => Nat.le_trans (outL_len g i) h.sT)
  have X0 := Lib.hid (heap_alloc_new w (.cells #[.slice sa g.S.length sc, .slice aa g.A.length ac, .slice ta g.T.length tc] 26))
  have HB := Lib.hid hb
  have HAA := Lib.hid ha
  have KS := Lib.hid (fun k a => actK_succ g l k a)
  have KA := Lib.hid (fun a => actK_all g l a)
  have K0 : Hid (∀ a, False ↔ ActK g l 0 a) := Lib.hid (fun a => ⟨fun h => h.elim, fun ⟨j, hj, _⟩ => by omega⟩)
  clear h hb ha hw hA
  have HKC : Hid (∀ k, k ≤ l.length → k * C ≤ 1000000000000) := Lib.hid (fun k hk => by rw [← hC]; omega)
  have HSC : Hid (∀ k, (k + 1) * C = k * C + C) := Lib.hid (fun k => Nat.succ_mul k C)
  rw [show l.length * 1000000 = l.length * C by rw [hC]]
  have hC1 : C ≤ 1000000 := by omega
  have OLEN2 : Hid (∀ i, (outL g i).length ≤ C) := Lib.hid (fun i => by rw [← hC]; exact OLEN.out i)
  clear hC
  generalize ActK g l = AK at *
  go_enter Try.func97, Try.ntmps97
  go_wp2_with (go_at_call 112; refine OF.out.mono ?_; rintro e w1 ⟨mb, m1, s1, N1, f1, rfl, hM, hF, hN, hmb, hb1⟩; have A1 := Lib.hid (show AcM w (w1.alloc (.map #[] 0)) #[.slice sa g.S.length sc, .slice aa g.A.length ac, .slice ta g.T.length tc] mb w1.heap.size m1 s1 f1 0 0 (fun _ => none) from ⟨(HB.out.trans (hb1.mono HB.out.size)).trans ((balloc w1 _).mono (HB.out.trans (hb1.mono HB.out.size)).size), bheap (balloc w1 _) (bheap hb1 X0.out), hM.more (balloc w1 _), MapI.made w1, by have := hM.lt; omega, (HB.out.trans (hb1.mono HB.out.size)).size⟩); have HF1 := Lib.hid hF; clear hM hF hN hmb hb1)
  go_loopg [16] l.length (fun fu c wr => ∃ (k m sz : Nat) (f : Int → Option Int), k + fu = l.length ∧ c = .int .i64 k ∧ m ≤ k * C ∧ Hid (PosF (k * C) (AK k) f) ∧ Hid (AcM w wr #[.slice sa g.S.length sc, .slice aa g.A.length ac, .slice ta g.T.length tc] mb w1.heap.size m1 s1 f1 m sz f))
  case atStart => exact ⟨0, 0, 0, _, by omega, rfl, Nat.zero_le _, Lib.hid ((posF_zero.same K0.out).le (Nat.zero_le _)), A1⟩
  case round =>
    clear A1 HB X0
    obtain ⟨k, m, sz, f, hk, rfl, hm, HF, HM⟩ := hrel
    by_cases hlt : k < l.length
    · obtain ⟨b1, o1, rfl, d1⟩ := HAA.out k hlt
      have y1 := bkeep HM.out.below d1
      have z1 : (k : Int) < (l.length : Int) := by omega
      have c0 := cell_of_block HM.out.vg 0 _ rfl
      have c1 := cell_of_block HM.out.vg 1 _ rfl
      have c2 := cell_of_block HM.out.vg 2 _ rfl
      have HO := Lib.hid (OUT.out wr HM.out.below (l.getD k 0))
      have HWE := Lib.hid (OWF.out (l.getD k 0))
      have hol := OLEN2.out (l.getD k 0)
      have hkc := HKC.out k (by omega)
      have hsc := HSC.out k
      have HKS := Lib.hid (KS.out k)
      clear d1
      generalize outL g (l.getD k 0) = el at *
      generalize l.getD k 0 = p at *
      go_wp2_with (go_at_call 26; refine HO.out.mono ?_; rintro e w3 ⟨rv, rfl, hE, hb3⟩; obtain ⟨ea, ec, rfl, hE⟩ := hE; have HED := Lib.hid hE; have HM3 := Lib.hid (HM.out.more hb3); clear hb3 hE)
      clear c0 c1 c2 y1
      go_loopg [24] el.length (fun fu c wr => ∃ (r m sz : Nat) (f : Int → Option Int), r + fu = el.length ∧ c = .int .i64 r ∧ m ≤ k * C + r ∧ Hid (PosF (k * C + r) (fun a => AK k a ∨ ∃ q, q < r ∧ (el.getD q (0, 0, 0)).2.1 = a ∧ (el.getD q (0, 0, 0)).2.2 ∈ l) f) ∧ Hid (AcM w wr #[.slice sa g.S.length sc, .slice aa g.A.length ac, .slice ta g.T.length tc] mb w1.heap.size m1 s1 f1 m sz f) ∧ Hid (EdgesAt wr (.slice ea el.length ec) el))
      case atStart => exact ⟨0, m, sz, f, by omega, rfl, by omega, Lib.hid (HF.out.same (fun a => ⟨.inl, fun h => by rcases h with h | ⟨q, hq, _⟩; exact h; omega⟩)), HM3, Lib.hid ⟨ea, ec, rfl, HED.out⟩⟩
      case round =>
        obtain ⟨r, m, sz, f, hr, rfl, hm, HF, HM, HE⟩ := hrel
        obtain ⟨ea', ec', e0, hE⟩ := HE.out
        simp only [Value.slice.injEq, true_and] at e0
        obtain ⟨rfl, rfl⟩ := e0
        have HED := Lib.hid hE
        clear hE
        by_cases hlt3 : r < el.length
        · obtain ⟨b3, o3, rfl, e1, e2, e3⟩ := HED.out r hlt3
          have z3 : (r : Int) < (el.length : Int) := by omega
          have hin : el.getD r (0, 0, 0) ∈ el := by rw [List.getD_eq_getElem?_getD, List.getElem?_eq_getElem hlt3]; simp
          have HZ := Lib.hid (HWE.out _ hin)
          have HPS : Hid (∀ a, (if (el.getD r (0, 0, 0)).2.2 ∈ l then (a = (el.getD r (0, 0, 0)).2.1 ∨ (AK k a ∨ ∃ q, q < r ∧ (el.getD q (0, 0, 0)).2.1 = a ∧ (el.getD q (0, 0, 0)).2.2 ∈ l)) else (AK k a ∨ ∃ q, q < r ∧ (el.getD q (0, 0, 0)).2.1 = a ∧ (el.getD q (0, 0, 0)).2.2 ∈ l)) ↔ (AK k a ∨ ∃ q, q < r + 1 ∧ (el.getD q (0, 0, 0)).2.1 = a ∧ (el.getD q (0, 0, 0)).2.2 ∈ l)) := Lib.hid (fun a => by
            by_cases hz : (el.getD r (0, 0, 0)).2.2 ∈ l
            · rw [if_pos hz]
              constructor
              · rintro (h | h | ⟨q, hq, h⟩)
                · exact .inr ⟨r, by omega, h.symm, hz⟩
                · exact .inl h
                · exact .inr ⟨q, by omega, h⟩
              · rintro (h | ⟨q, hq, h1, h2⟩)
                · exact .inr (.inl h)
                · by_cases e : q = r
                  · subst e; exact .inl h1.symm
                  · exact .inr (.inr ⟨q, by omega, h1, h2⟩)
            · rw [if_neg hz]
              constructor
              · rintro (h | ⟨q, hq, h⟩)
                · exact .inl h
                · exact .inr ⟨q, by omega, h⟩
              · rintro (h | ⟨q, hq, h1, h2⟩)
                · exact .inl h
                · by_cases e : q = r
                  · subst e; exact absurd h2 hz
                  · exact .inr ⟨q, by omega, h1, h2⟩)
          clear hin
          generalize el.getD r (0, 0, 0) = ed at *
          obtain ⟨ex, ey, ez⟩ := ed
          have hb4 := balloc wr (.cells #[.int .i64 ex, .int .i64 ey, .int .i64 ez] 44)
          have HM4 := Lib.hid (HM.out.more hb4)
          have HE4 := Lib.hid (HE.out.below hb4)
          have hfz := HF.out ey
          have hpos := (HF1.out ez).2.2
          have HPOS := Lib.hid hpos
          clear hb4 hpos
          by_cases hz : ez ∈ l
          · have hz2 := HPOS.out.2 hz
            have hwr : IntKind.i64.wrap ((f ey).getD 0 + 1) = (f ey).getD 0 + 1 := IntWalk.i64_in _ (by omega)
            have HWP : Hid ((Lit.int .i64 ((f ey).getD 0 + 1)).wf = true) := Lib.hid (WalkArith.wf_i64 (by omega))
            have HFN := Lib.hid (((HF.out.step ey).same (P' := (fun a => AK k a ∨ ∃ q, q < r + 1 ∧ (el.getD q (0, 0, 0)).2.1 = a ∧ (el.getD q (0, 0, 0)).2.2 ∈ l)) (fun a => by have := HPS.out a; rw [if_pos hz] at this; exact this)).le (M := k * C + (r + 1)) (by omega))
            clear hfz
            go_wp2_with (first
              | (at_lookup; refine wp_lookT Try.underlying101 HM4.out.m1 rfl rfl rfl rfl HZ.out.1 ?_)
              | (at_lookup; refine wp_lookT Try.underlying101 HM4.out.m2 rfl rfl rfl rfl HZ.out.2 ?_)
              | (at_mapUpdate; refine wp_mputT Try.underlying101 HM4.out.m2 (by unfold maxLen; omega) rfl rfl rfl rfl (by first | rfl | rw [hwr]; rfl) HZ.out.2 HWP.out ?_; intro w5 hm5 hg5; have HM5 := Lib.hid (HM4.out.put hm5 hg5); have HE5 := Lib.hid (HE4.out.mapUpd HM4.out.m2 hg5); clear hm5 hg5))
            go_roundg (el.length - (r + 1))
            case measure => omega
            case rel => exact ⟨r + 1, m + 1, _, _, by omega, by simp, by omega, HFN, HM5, HE5⟩
          · have hz2 : ¬ 0 < (f1 ez).getD 0 := fun q => hz (HPOS.out.1 q)
            have HFN := Lib.hid ((HF.out.same (P' := (fun a => AK k a ∨ ∃ q, q < r + 1 ∧ (el.getD q (0, 0, 0)).2.1 = a ∧ (el.getD q (0, 0, 0)).2.2 ∈ l)) (fun a => by have := HPS.out a; rw [if_neg hz] at this; exact this)).le (M := k * C + (r + 1)) (by omega))
            go_wp2_with (first
              | (at_lookup; refine wp_lookT Try.underlying101 HM4.out.m1 rfl rfl rfl rfl HZ.out.1 ?_))
            go_roundg (el.length - (r + 1))
            case measure => omega
            case rel => exact ⟨r + 1, m, sz, f, by omega, by simp, by omega, HFN, HM4, HE4⟩
        · obtain rfl : r = el.length := by omega
          have HFN := Lib.hid ((HF.out.le (M := (k + 1) * C) (by omega)).same (P' := AK (k + 1)) (fun a => (HKS.out a).symm))
          go_wp2_with fail
          go_roundg (l.length - (k + 1))
          case measure => omega
          case rel => exact ⟨k + 1, m, sz, f, by omega, by simp, by omega, HFN, HM⟩
    · obtain rfl : k = l.length := by omega
      go_wp2_with fail
      go_ret
      exact ⟨_, _, _, _, f, rfl, HM.out.m2, HF.out.same KA.out, Nat.le_refl _, HM.out.hob, HM.out.below⟩
end Go.Proofs.Ytnlaonppgebpoaa

namespace Go.Proofs.Ytnlaonppgebpoaa
open Go.RowKit

set_option maxRecDepth 100000 in
set_option maxHeartbeats 4000000 in
theorem has2_ok (v : Value) (l : List Int) (x : Int) (w : World) (h : IntsAt w v l) (hl : l.length ≤ 1000000) :
    Calls Try.prog 98 #[v, .int .i64 x] w fun e w' => e = .returned (.bool (decide (x ∈ l))) ∧ Below w.heap.size w w' := by
  obtain ⟨a, ac, rfl, ha⟩ := h
  have HA := Lib.hid ha
  clear ha
  go_enter Try.func98, Try.ntmps98
  go_wp2_with fail
  go_loopg [5] l.length (fun fu c wr => ∃ k : Nat, k + fu = l.length ∧ c = .int .i64 k ∧ (∀ j, j < k → l.getD j 0 ≠ x) ∧ w = wr)
  case atStart => exact ⟨0, by omega, rfl, fun j hj => by omega, rfl⟩
  case round =>
    obtain ⟨k, hk, rfl, hall, rfl⟩ := hrel
    by_cases hlt : k < l.length
    · obtain ⟨b1, o1, rfl, d1⟩ := HA.out k hlt
      have z1 : (k : Int) < (l.length : Int) := by omega
      have HM := Lib.hid (show l.getD k 0 ∈ l from getD_mem hlt)
      have HL := Lib.hid hall
      have hnx : l.getD k 0 ≠ x → ∀ j, j < k + 1 → l.getD j 0 ≠ x := fun hne j hj => by
        by_cases e : j = k
        · rw [e]; exact hne
        · exact HL.out j (by omega)
      have HN := Lib.hid hnx
      clear hall hnx
      generalize l.getD k 0 = y at *
      by_cases e : y = x
      · go_wp2_with fail
        go_ret
        exact ⟨by rw [← e, decide_eq_true HM.out]; rfl, Below.refl _ _⟩
      · go_wp2_with fail
        go_roundg (l.length - (k + 1))
        case measure => omega
        case rel => exact ⟨k + 1, by omega, by simp, HN.out e, rfl⟩
    · have e : x ∉ l := fun hm => by
        obtain ⟨j, hj, e⟩ := List.getElem_of_mem hm
        refine hall j (by omega) ?_
        rw [List.getD_eq_getElem?_getD, List.getElem?_eq_getElem hj]; simpa using e
      go_wp2_with fail
      go_ret
      exact ⟨by rw [decide_eq_false e]; rfl, Below.refl _ _⟩

def actB (g : Gr) (l : List Int) (a : Int) : Bool := decide (∃ e ∈ allL g, e.2.1 = a ∧ e.1 ∈ l ∧ e.2.2 ∈ l)
theorem actB_iff {g : Gr} {l : List Int} {a : Int} : actB g l a = true ↔ ActP g l a := decide_eq_true_iff
set_option maxRecDepth 100000 in
set_option maxHeartbeats 4000000 in
theorem acts_ok (v u : Value) (g : Gr) (l : List Int) (ag : Int) (w : World) (h : GraphAt w v g) (hu : IntsAt w u l) (hw : ∀ x ∈ l, (Lit.int .i64 x).wf = true) (hl : l.length ≤ 1000000) (hA : ∀ e ∈ allL g, (Lit.int .i64 e.2.1).wf = true) (hag : (Lit.int .i64 ag).wf = true) :
    Calls Try.prog 63 #[v, u, .int .i64 ag] w fun e w' => e = .returned (.bool (actB g l ag)) ∧ Below w.heap.size w w' := by
  obtain ⟨sa, aa, ta, sc, ac, tc, rfl, -⟩ := h.var
  have hb := balloc w (.cells #[.slice sa g.S.length sc, .slice aa g.A.length ac, .slice ta g.T.length tc] 26)
  have AC := Lib.hid (acting_ok _ u g l _ (h.below hb) (hu.below hb) hw hl hA)
  have HB := Lib.hid hb
  have X0 := Lib.hid (heap_alloc_new w (.cells #[.slice sa g.S.length sc, .slice aa g.A.length ac, .slice ta g.T.length tc] 26))
  have HAG := Lib.hid hag
  clear h hb hw hA hag hu
  by_cases hp : ActP g l ag
  · have E : actB g l ag = true := actB_iff.2 hp
    rw [E]
    clear E
    go_enter Try.func63, Try.ntmps63
    go_wp2_with (first
      | (go_at_call 97; refine AC.out.mono ?_; rintro e w1 ⟨mb, m1, s1, N1, f1, rfl, hM, hF, hN, hmb, hb1⟩; have HM := Lib.hid hM; have hpos := (hF ag).2.2.2 hp; have HB1 := Lib.hid (HB.out.trans (hb1.mono HB.out.size)); clear hM hF hN hmb hb1)
      | (at_lookup; refine wp_lookT Try.underlying101 HM.out rfl rfl rfl rfl HAG.out ?_))
    go_ret
    exact ⟨rfl, HB1.out⟩
  · have E : actB g l ag = false := by cases h : actB g l ag; rfl; exact absurd (actB_iff.1 h) hp
    rw [E]
    clear E
    go_enter Try.func63, Try.ntmps63
    go_wp2_with (first
      | (go_at_call 97; refine AC.out.mono ?_; rintro e w1 ⟨mb, m1, s1, N1, f1, rfl, hM, hF, hN, hmb, hb1⟩; have HM := Lib.hid hM; have hpos : ¬ 0 < (f1 ag).getD 0 := fun q => hp ((hF ag).2.2.1 q); have HB1 := Lib.hid (HB.out.trans (hb1.mono HB.out.size)); clear hM hF hN hmb hb1)
      | (at_lookup; refine wp_lookT Try.underlying101 HM.out rfl rfl rfl rfl HAG.out ?_))
    go_ret
    exact ⟨by rw [decide_eq_false (show ¬ 0 < (f1 ag).getD 0 by omega)]; rfl, HB1.out⟩
set_option maxRecDepth 100000 in
set_option maxHeartbeats 8000000 in
theorem racts_ok (v u : Value) (g : Gr) (l : List Int) (ag : Int) (w : World) (h : GraphAt w v g) (hu : IntsAt w u l) (hl : l.length ≤ 1000000) :
    Calls Try.prog 64 #[v, u, .int .i64 ag] w fun e w' => e = .returned (.bool (actB g l ag)) ∧ Below w.heap.size w w' := by
  obtain ⟨sa, aa, ta, sc, ac, tc, rfl, -⟩ := h.var
  have hb := balloc w (.cells #[.slice sa g.S.length sc, .slice aa g.A.length ac, .slice ta g.T.length tc] 26)
  have RA := Lib.hid (rall_ok _ g _ (h.below hb))
  have HB := Lib.hid hb
  have X0 := Lib.hid (heap_alloc_new w (.cells #[.slice sa g.S.length sc, .slice aa g.A.length ac, .slice ta g.T.length tc] 26))
  have HH := Lib.hid (fun (w' : World) (hw : Below w.heap.size w w') (x : Int) => has2_ok u l x w' (hu.below hw) hl)
  have HE : Hid (∀ k, (∀ j, j < k → ¬ (((allL g).getD j (0, 0, 0)).2.1 = ag ∧ ((allL g).getD j (0, 0, 0)).1 ∈ l ∧ ((allL g).getD j (0, 0, 0)).2.2 ∈ l)) → k = (allL g).length → actB g l ag = false) := Lib.hid (fun k hall hk => by
    unfold actB
    refine decide_eq_false ?_
    rintro ⟨e, he, h0, h1, h2⟩
    obtain ⟨j, hj, rfl⟩ := List.getElem_of_mem he
    refine hall j (by omega) ?_
    rw [List.getD_eq_getElem?_getD, List.getElem?_eq_getElem hj]
    exact ⟨h0, h1, h2⟩)
  have HY : Hid (∀ k, k < (allL g).length → ((allL g).getD k (0, 0, 0)).2.1 = ag → ((allL g).getD k (0, 0, 0)).1 ∈ l → ((allL g).getD k (0, 0, 0)).2.2 ∈ l → actB g l ag = true) := Lib.hid (fun k hk h0 h1 h2 => by
    unfold actB
    refine decide_eq_true ⟨(allL g).getD k (0, 0, 0), ?_, h0, h1, h2⟩
    rw [List.getD_eq_getElem?_getD, List.getElem?_eq_getElem hk]; simp)
  have hal : (allL g).length ≤ 1000000 := by
    cases e : rightB g
    · rw [allL_not e]; simp
    · rw [allL_len ((rightB_iff g).1 e)]; exact h.sT
  clear h hb hu hl
  generalize allL g = al at *
  go_enter Try.func64, Try.ntmps64
  go_wp2_with (go_at_call 33; refine RA.out.mono ?_; rintro e w1 ⟨rv, rfl, hE, hb1⟩; obtain ⟨ea, ec, rfl, hE⟩ := hE; have HED := Lib.hid hE; have HB1 := Lib.hid (HB.out.trans (hb1.mono HB.out.size)); clear hb1 hE)
  go_loopg [8] al.length (fun fu c wr => ∃ k : Nat, k + fu = al.length ∧ c = .int .i64 k ∧ (∀ j, j < k → ¬ ((al.getD j (0, 0, 0)).2.1 = ag ∧ (al.getD j (0, 0, 0)).1 ∈ l ∧ (al.getD j (0, 0, 0)).2.2 ∈ l)) ∧ Below w1.heap.size w1 wr)
  case atStart => exact ⟨0, by omega, rfl, fun j hj => by omega, Below.refl _ _⟩
  case round =>
    obtain ⟨k, hk, rfl, hall, hbr⟩ := hrel
    by_cases hlt : k < al.length
    · obtain ⟨b1, o1, rfl, d1, d2, d3⟩ := HED.out k hlt
      have y2 := bkeep hbr d2
      have y1 := bkeep hbr d1
      have HBR := Lib.hid hbr
      have D3 := Lib.hid d3
      have z1 : (k : Int) < (al.length : Int) := by omega
      have HL := Lib.hid hall
      have hnx : ¬ ((al.getD k (0, 0, 0)).2.1 = ag ∧ (al.getD k (0, 0, 0)).1 ∈ l ∧ (al.getD k (0, 0, 0)).2.2 ∈ l) → ∀ j, j < k + 1 → ¬ ((al.getD j (0, 0, 0)).2.1 = ag ∧ (al.getD j (0, 0, 0)).1 ∈ l ∧ (al.getD j (0, 0, 0)).2.2 ∈ l) := fun hne j hj => by
        by_cases e : j = k
        · rw [e]; exact hne
        · exact HL.out j (by omega)
      have HN := Lib.hid hnx
      have HK := Lib.hid (HY.out k hlt)
      clear hall hnx d1 d2 d3 hbr
      generalize al.getD k (0, 0, 0) = ed at *
      obtain ⟨ex, ey, ez⟩ := ed
      have H1 := Lib.hid (HH.out wr (HB1.out.trans (HBR.out.mono HB1.out.size)) ex)
      by_cases hn0 : ¬ ey = ag
      · go_wp2_with fail
        go_roundg (al.length - (k + 1))
        case measure => omega
        case rel => exact ⟨k + 1, by omega, by simp, HN.out (fun q => hn0 q.1), HBR.out⟩
      have m0 := Decidable.of_not_not hn0
      clear hn0
      by_cases m1 : ex ∈ l
      · rw [decide_eq_true m1] at H1
        by_cases m2 : ez ∈ l
        · go_wp2_with (first
            | (go_at_call_of 98 (Value.int .i64 ex); refine H1.out.mono ?_; rintro e w2 ⟨rfl, hb2⟩; have HB2 := Lib.hid (HBR.out.trans (hb2.mono HBR.out.size)); have y3 := bkeep HB2.out D3.out; have H2 := Lib.hid (HH.out w2 (HB1.out.trans (HB2.out.mono HB1.out.size)) ez); rw [decide_eq_true m2] at H2; clear hb2)
            | (go_at_call_of 98 (Value.int .i64 ez); refine H2.out.mono ?_; rintro e w3 ⟨rfl, hb3⟩; have HB3 := Lib.hid (HB2.out.trans (hb3.mono HB2.out.size)); clear hb3))
          go_ret
          exact ⟨by rw [HK.out m0 m1 m2]; rfl, HB1.out.trans (HB3.out.mono HB1.out.size)⟩
        · go_wp2_with (first
            | (go_at_call_of 98 (Value.int .i64 ex); refine H1.out.mono ?_; rintro e w2 ⟨rfl, hb2⟩; have HB2 := Lib.hid (HBR.out.trans (hb2.mono HBR.out.size)); have y3 := bkeep HB2.out D3.out; have H2 := Lib.hid (HH.out w2 (HB1.out.trans (HB2.out.mono HB1.out.size)) ez); rw [decide_eq_false m2] at H2; clear hb2)
            | (go_at_call_of 98 (Value.int .i64 ez); refine H2.out.mono ?_; rintro e w3 ⟨rfl, hb3⟩; have HB3 := Lib.hid (HB2.out.trans (hb3.mono HB2.out.size)); clear hb3))
          go_roundg (al.length - (k + 1))
          case measure => omega
          case rel => exact ⟨k + 1, by omega, by simp, HN.out (fun q => m2 q.2.2), HB3.out⟩
      · rw [decide_eq_false m1] at H1
        go_wp2_with (first
            | (go_at_call_of 98 (Value.int .i64 ex); refine H1.out.mono ?_; rintro e w2 ⟨rfl, hb2⟩; have HB2 := Lib.hid (HBR.out.trans (hb2.mono HBR.out.size)); clear hb2))
        go_roundg (al.length - (k + 1))
        case measure => omega
        case rel => exact ⟨k + 1, by omega, by simp, HN.out (fun q => m1 q.2.1), HB2.out⟩
    · obtain rfl : k = al.length := by omega
      have e := HE.out _ hall rfl
      go_wp2_with fail
      go_ret
      exact ⟨by rw [e]; rfl, HB1.out.trans (hbr.mono HB1.out.size)⟩
end Go.Proofs.Ytnlaonppgebpoaa

namespace Go.Proofs.Ytnlaonppgebpoaa
open Go.RowKit

/-- rows of truths -/
def BRowsAt (w : World) (v : Value) (rows : List (List Bool)) : Prop :=
  ∃ a cap, v = .slice a rows.length cap ∧ ∀ j, j < rows.length → ∃ b off u, a = some ⟨b, off, none⟩ ∧ w.cell? ⟨b, off + j, none⟩ = some u ∧ BoolsAt w u (rows.getD j [])
theorem BRowsAt.below {w w' : World} {v : Value} {rows : List (List Bool)} (h : BRowsAt w v rows) (hb : Below w.heap.size w w') : BRowsAt w' v rows := by
  obtain ⟨a, cap, e, h⟩ := h
  refine ⟨a, cap, e, fun j hj => ?_⟩
  obtain ⟨b, off, u, e, h1, h2⟩ := h j hj
  exact ⟨b, off, u, e, bkeep hb h1, h2.below hb⟩
/-- a right table -/
structure RT (g : Gr) (en : List (List Bool)) (ag : Int) : Prop where
  right : Rt g
  h0 : 0 ≤ ag
  h1 : ag ≤ 100
  len : en.length = nodesN g
  rows : ∀ i, i < en.length → ((en.getD i []).length : Int) = ag
  edges : ∀ e ∈ allL g, e.2.1 < ag ∧ (en.getD e.1.toNat []).getD e.2.1.toNat false = true
open Classical in
noncomputable def rtB (g : Gr) (en : List (List Bool)) (ag : Int) : Bool := decide (RT g en ag)
open Classical in
theorem rtB_not {g : Gr} {en : List (List Bool)} {ag : Int} (h : ¬ RT g en ag) : rtB g en ag = false := decide_eq_false h
open Classical in
theorem rtB_yes {g : Gr} {en : List (List Bool)} {ag : Int} (h : RT g en ag) : rtB g en ag = true := decide_eq_true h
theorem RT.wf {g : Gr} {en : List (List Bool)} {ag : Int} (h : RT g en ag) : ∀ e ∈ allL g, (Lit.int .i64 e.2.1).wf = true := fun e he => by
  have h1 := (h.edges e he).1
  have h2 := allL_mem h.right he
  have h3 := h.h1
  exact WalkArith.wf_i64 (by omega)

set_option maxRecDepth 100000 in
set_option maxHeartbeats 16000000 in
theorem rrt_ok (v u : Value) (g : Gr) (en : List (List Bool)) (ag : Int) (w : World) (h : GraphAt w v g) (hu : BRowsAt w u en) :
    Calls Try.prog 60 #[v, u, .int .i64 ag] w fun e w' => e = .returned (.bool (rtB g en ag)) ∧ Below w.heap.size w w' := by
  obtain ⟨sa, aa, ta, sc, ac, tc, rfl, -⟩ := h.var
  have hb := balloc w (.cells #[.slice sa g.S.length sc, .slice aa g.A.length ac, .slice ta g.T.length tc] 26)
  have RR := Lib.hid (rright_ok _ g _ (h.below hb))
  have RN := Lib.hid (fun (w' : World) (hw : Below w.heap.size w w') => rnodes_ok _ g w' (h.below hw))
  have RA := Lib.hid (fun (w' : World) (hw : Below w.heap.size w w') => rall_ok _ g w' (h.below hw))
  have HB := Lib.hid hb
  have X0 := Lib.hid (heap_alloc_new w (.cells #[.slice sa g.S.length sc, .slice aa g.A.length ac, .slice ta g.T.length tc] 26))
  have HU := Lib.hid hu
  obtain ⟨ua, uc, rfl, hrow⟩ := hu
  have HRW := Lib.hid hrow
  cases hr : rightB g
  · have E := Lib.hid (rtB_not (g := g) (en := en) (ag := ag) (fun q => by rw [(rightB_iff g).2 q.right] at hr; cases hr))
    rw [hr] at RR
    rw [E.out]
    clear h hb hr hrow
    go_enter Try.func60, Try.ntmps60
    go_wp2_with (go_at_call 29; refine RR.out.mono ?_; rintro e w1 ⟨rfl, hb1⟩; have HB1 := Lib.hid (HB.out.trans (hb1.mono HB.out.size)); clear hb1)
    go_ret
    exact ⟨rfl, HB1.out⟩
  rw [hr] at RR
  have hR := (rightB_iff g).1 hr
  by_cases h0 : ag < 0
  · have E := Lib.hid (rtB_not (g := g) (en := en) (ag := ag) (fun q => by have := q.h0; omega))
    rw [E.out]
    clear h hb hr hrow
    go_enter Try.func60, Try.ntmps60
    go_wp2_with (go_at_call 29; refine RR.out.mono ?_; rintro e w1 ⟨rfl, hb1⟩; have HB1 := Lib.hid (HB.out.trans (hb1.mono HB.out.size)); clear hb1)
    go_ret
    exact ⟨rfl, HB1.out⟩
  by_cases h1 : 100 < ag
  · have E := Lib.hid (rtB_not (g := g) (en := en) (ag := ag) (fun q => by have := q.h1; omega))
    rw [E.out]
    clear h hb hr hrow
    go_enter Try.func60, Try.ntmps60
    go_wp2_with (go_at_call 29; refine RR.out.mono ?_; rintro e w1 ⟨rfl, hb1⟩; have HB1 := Lib.hid (HB.out.trans (hb1.mono HB.out.size)); clear hb1)
    go_ret
    exact ⟨rfl, HB1.out⟩
  by_cases hlen0 : ¬ en.length = nodesN g
  · have E := Lib.hid (rtB_not (g := g) (en := en) (ag := ag) (fun q => hlen0 q.len))
    rw [E.out]
    have hl2 : ¬ (en.length : Int) = (nodesN g : Int) := by omega
    clear h hb hr hrow
    generalize nodesN g = n at *
    have hl3 : ((en.length : Int) != (n : Int)) = true := by rw [bne_iff_ne]; exact hl2
    go_enter Try.func60, Try.ntmps60
    go_wp2_with (first
      | (go_at_call 29; refine RR.out.mono ?_; rintro e w1 ⟨rfl, hb1⟩; have HB1 := Lib.hid (HB.out.trans (hb1.mono HB.out.size)); have HX1 := Lib.hid (bheap hb1 X0.out); have c0 := cell_of_block HX1.out 0 _ rfl; have c1 := cell_of_block HX1.out 1 _ rfl; have c2 := cell_of_block HX1.out 2 _ rfl; clear hb1)
      | (go_at_call 31; refine (RN.out _ HB1.out).mono ?_; rintro e w2 ⟨rfl, hb2⟩; have HB2 := Lib.hid (HB1.out.trans (hb2.mono HB1.out.size)); clear hb2))
    go_ret
    exact ⟨rfl, HB2.out⟩
  have hlen := Decidable.of_not_not hlen0
  clear hlen0
  have hsz := h.sS
  have hsT := h.sT
  have hnn := nodesN_right hR
  have hne := hR.ne
  have AL : Hid ((allL g).length ≤ 1000000) := Lib.hid (by rw [allL_len hR]; exact hsT)
  have hel : en.length ≤ 1000000 := by omega
  have HLEN := Lib.hid hlen
  have OE := Lib.hid (fun e (he : e ∈ allL g) => allL_mem hR he)
  have HRT := Lib.hid (fun (h2 : ∀ i, i < en.length → ((en.getD i []).length : Int) = ag) (h3 : ∀ e ∈ allL g, e.2.1 < ag ∧ (en.getD e.1.toNat []).getD e.2.1.toNat false = true) => rtB_yes (g := g) (en := en) (ag := ag) ⟨hR, by omega, by omega, hlen, h2, h3⟩)
  have HNR := Lib.hid (fun i (hi : i < en.length) (h2 : ¬ ((en.getD i []).length : Int) = ag) => rtB_not (g := g) (en := en) (ag := ag) (fun q => h2 (q.rows i hi)))
  have HNE := Lib.hid (fun e (he : e ∈ allL g) (h2 : ¬ (e.2.1 < ag ∧ (en.getD e.1.toNat []).getD e.2.1.toNat false = true)) => rtB_not (g := g) (en := en) (ag := ag) (fun q => h2 (q.edges e he)))
  have HNN := Lib.hid (show nodesN g = g.S.length - 1 from hnn)
  clear h hb hr hrow hR
  rw [← hlen] at RN
  clear hlen hnn hne hsz hsT
  have nl := ne_false (en.length : Int)
  have nl2 : ((en.length : Int) != (en.length : Int)) = false := by simp
  go_enter Try.func60, Try.ntmps60
  go_wp2_with (first
      | (go_at_call 29; refine RR.out.mono ?_; rintro e w1 ⟨rfl, hb1⟩; have HB1 := Lib.hid (HB.out.trans (hb1.mono HB.out.size)); have HX1 := Lib.hid (bheap hb1 X0.out); have c0 := cell_of_block HX1.out 0 _ rfl; have c1 := cell_of_block HX1.out 1 _ rfl; have c2 := cell_of_block HX1.out 2 _ rfl; clear hb1)
      | (go_at_call 31; refine (RN.out _ HB1.out).mono ?_; rintro e w2 ⟨rfl, hb2⟩; have HB2 := Lib.hid (HB1.out.trans (hb2.mono HB1.out.size)); have HX2 := Lib.hid (bheap hb2 HX1.out); clear hb2))
  clear c0 c1 c2
  go_loopg [7] en.length (fun fu c wr => ∃ i : Nat, i + fu = en.length ∧ c = .int .i64 i ∧ (∀ j, j < i → ((en.getD j []).length : Int) = ag) ∧ w2 = wr)
  case atStart => exact ⟨0, by omega, rfl, fun j hj => by omega, rfl⟩
  case round =>
    obtain ⟨i, hi, rfl, hall, rfl⟩ := hrel
    by_cases hlt : i < en.length
    · obtain ⟨b, off, uu, rfl, c1, r1⟩ := HRW.out i hlt
      obtain ⟨ra, rc, rfl, -⟩ := r1
      have y1 := bkeep HB2.out c1
      have z1 : (i : Int) < (en.length : Int) := by omega
      have HAL := Lib.hid hall
      have HNI := Lib.hid (HNR.out i hlt)
      have HNX : Hid (((en.getD i []).length : Int) = ag → ∀ j, j < i + 1 → ((en.getD j []).length : Int) = ag) := Lib.hid (fun hne j hj => by
        by_cases e : j = i
        · rw [e]; exact hne
        · exact HAL.out j (by omega))
      clear c1 hall
      generalize (en.getD i []).length = rl at *
      by_cases hrl : (rl : Int) = ag
      · have n3 : ((rl : Int) != ag) = false := by rw [hrl]; simp
        go_wp2_with fail
        go_roundg (en.length - (i + 1))
        case measure => omega
        case rel => exact ⟨i + 1, by omega, by simp, HNX.out hrl, rfl⟩
      · have E := Lib.hid (HNI.out hrl)
        have n3 : ((rl : Int) != ag) = true := by rw [bne_iff_ne]; exact hrl
        go_wp2_with fail
        go_ret
        exact ⟨by rw [E.out]; rfl, HB2.out⟩
    · obtain rfl : i = en.length := by omega
      have HALL := Lib.hid hall
      have c0 := cell_of_block HX2.out 0 _ rfl
      have c1 := cell_of_block HX2.out 1 _ rfl
      have c2 := cell_of_block HX2.out 2 _ rfl
      have HAC := Lib.hid (RA.out _ HB2.out)
      clear hall
      go_wp2_with (go_at_call 33; refine HAC.out.mono ?_; rintro e w3 ⟨lv, rfl, hE, hb3⟩; obtain ⟨la, lc, rfl, hE⟩ := hE; have HED := Lib.hid hE; have HB3 := Lib.hid (HB2.out.trans (hb3.mono HB2.out.size)); clear hb3 hE)
      clear c0 c1 c2
      have hal := AL.out
      have HRTX : Hid ((∀ j, j < (allL g).length → ((allL g).getD j (0, 0, 0)).2.1 < ag ∧ (en.getD ((allL g).getD j (0, 0, 0)).1.toNat []).getD ((allL g).getD j (0, 0, 0)).2.1.toNat false = true) → rtB g en ag = true) := Lib.hid (fun h => HRT.out HALL.out (fun e he => by
        obtain ⟨j, hj, rfl⟩ := List.getElem_of_mem he
        have := h j hj
        rwa [List.getD_eq_getElem?_getD, List.getElem?_eq_getElem hj] at this))
      have HIN : Hid (∀ j, j < (allL g).length → (allL g).getD j (0, 0, 0) ∈ allL g) := Lib.hid (fun j hj => by
        rw [List.getD_eq_getElem?_getD, List.getElem?_eq_getElem hj]; simp)
      generalize allL g = al at *
      go_loopg [9] al.length (fun fu c wr => ∃ k : Nat, k + fu = al.length ∧ c = .int .i64 k ∧ (∀ j, j < k → (al.getD j (0, 0, 0)).2.1 < ag ∧ (en.getD (al.getD j (0, 0, 0)).1.toNat []).getD (al.getD j (0, 0, 0)).2.1.toNat false = true) ∧ Below w3.heap.size w3 wr)
      case atStart => exact ⟨0, by omega, rfl, fun j hj => by omega, Below.refl _ _⟩
      case round =>
        obtain ⟨k, hk, rfl, hall, hbr⟩ := hrel
        by_cases hlt : k < al.length
        · obtain ⟨be, oe, rfl, e1, e2, e3⟩ := HED.out k hlt
          have y1 := bkeep hbr e1
          have y2 := bkeep hbr e2
          have z1 : (k : Int) < (al.length : Int) := by omega
          have hm := OE.out _ (HIN.out k hlt)
          have HAL := Lib.hid hall
          have HNI := Lib.hid (HNE.out _ (HIN.out k hlt))
          have HNX : Hid (((al.getD k (0, 0, 0)).2.1 < ag ∧ (en.getD (al.getD k (0, 0, 0)).1.toNat []).getD (al.getD k (0, 0, 0)).2.1.toNat false = true) → ∀ j, j < k + 1 → (al.getD j (0, 0, 0)).2.1 < ag ∧ (en.getD (al.getD j (0, 0, 0)).1.toNat []).getD (al.getD j (0, 0, 0)).2.1.toNat false = true) := Lib.hid (fun hne j hj => by
            by_cases e : j = k
            · rw [e]; exact hne
            · exact HAL.out j (by omega))
          have HB4 := Lib.hid (HB3.out.trans (hbr.mono HB3.out.size))
          have HBR := Lib.hid hbr
          clear e1 e2 e3 hall hbr
          generalize al.getD k (0, 0, 0) = ed at *
          obtain ⟨ex, ey, ez⟩ := ed
          obtain ⟨h1, h2, h3, h4, h5⟩ := hm
          simp only at h1 h2 h3 h4 h5 y1 y2 HNI HNX
          obtain ⟨a, rfl⟩ : ∃ a : Nat, ex = (a : Int) := ⟨ex.toNat, by omega⟩
          obtain ⟨b, rfl⟩ : ∃ b : Nat, ey = (b : Int) := ⟨ey.toNat, by omega⟩
          simp only [Int.toNat_natCast] at HNI HNX
          have ha : a < en.length := by have := HNN.out; have := HLEN.out; omega
          have z2 : (a : Int) < (en.length : Int) := by omega
          obtain ⟨b5, o5, uu, rfl, c5, r5⟩ := HRW.out a ha
          have hra := HALL.out a ha
          by_cases hb : (b : Int) < ag
          · have hb2 : b < (en.getD a []).length := by omega
            obtain ⟨ra, rc, rfl, r5⟩ := r5
            obtain ⟨b6, o6, rfl, d6⟩ := r5 b hb2
            have y5 := bkeep HB4.out c5
            have y6 := bkeep HB4.out d6
            have z3 : (b : Int) < ((en.getD a []).length : Int) := by omega
            clear c5 r5 d6 hra
            cases hx : (en.getD a []).getD b false
            · have E := Lib.hid (HNI.out (fun q => by rw [hx] at q; exact absurd q.2 (by simp)))
              rw [hx] at y6
              clear hx
              generalize (en.getD a []).length = rl at *
              go_wp2_with fail
              (refine region_still (by kernel_rfl) (by kernel_rfl) ?_; (repeat still_step); refine wpStill_nil ?_)
              go_wp2_with fail
              go_ret
              exact ⟨by rw [E.out]; rfl, HB4.out.drew⟩
            · have E := Lib.hid (HNX.out ⟨hb, hx⟩)
              rw [hx] at y6
              clear hx
              generalize (en.getD a []).length = rl at *
              go_wp2_with fail
              (refine region_still (by kernel_rfl) (by kernel_rfl) ?_; (repeat still_step); refine wpStill_nil ?_)
              go_wp2_with fail
              go_roundg (al.length - (k + 1))
              case measure => omega
              case rel => exact ⟨k + 1, by omega, by simp, E.out, by first | exact HBR.out.drew | exact HBR.out⟩
          · have E := Lib.hid (HNI.out (fun q => hb q.1))
            have hb3 : ag ≤ (b : Int) := by omega
            clear c5 r5 hra
            go_wp2_with fail
            go_quiet (fail)
            go_wp2_with fail
            go_ret
            exact ⟨by rw [E.out]; rfl, by first | exact HB4.out.drew | exact bdrewN HB4.out _⟩
        · obtain rfl : k = al.length := by omega
          have E := Lib.hid (HRTX.out hall)
          go_wp2_with fail
          go_ret
          exact ⟨by rw [E.out]; rfl, HB3.out.trans (hbr.mono HB3.out.size)⟩
end Go.Proofs.Ytnlaonppgebpoaa

namespace Go.Proofs.Ytnlaonppgebpoaa
open Go.RowKit

set_option maxRecDepth 100000 in
set_option maxHeartbeats 16000000 in
theorem rt_ok (v u : Value) (g : Gr) (en : List (List Bool)) (ag : Int) (w : World) (h : GraphAt w v g) (hu : BRowsAt w u en) :
    Calls Try.prog 89 #[v, u, .int .i64 ag] w fun e w' => e = .returned (.bool (rtB g en ag)) ∧ Below w.heap.size w w' := by
  obtain ⟨sa, aa, ta, sc, ac, tc, rfl, -⟩ := h.var
  have hb := balloc w (.cells #[.slice sa g.S.length sc, .slice aa g.A.length ac, .slice ta g.T.length tc] 26)
  have RR := Lib.hid (right_ok _ g _ (h.below hb))
  have RN := Lib.hid (fun (w' : World) (hw : Below w.heap.size w w') => nodes_ok _ g w' (h.below hw))
  have RO := Lib.hid (fun (w' : World) (hw : Below w.heap.size w w') (i : Int) => out_ok _ g i w' (h.below hw))
  have HB := Lib.hid hb
  have X0 := Lib.hid (heap_alloc_new w (.cells #[.slice sa g.S.length sc, .slice aa g.A.length ac, .slice ta g.T.length tc] 26))
  have HU := Lib.hid hu
  obtain ⟨ua, uc, rfl, hrow⟩ := hu
  have HRW := Lib.hid hrow
  cases hr : rightB g
  · have E := Lib.hid (rtB_not (g := g) (en := en) (ag := ag) (fun q => by rw [(rightB_iff g).2 q.right] at hr; cases hr))
    rw [hr] at RR
    rw [E.out]
    clear h hb hr hrow
    go_enter Try.func89, Try.ntmps89
    go_wp2_with (go_at_call 28; refine RR.out.mono ?_; rintro e w1 ⟨rfl, hb1⟩; have HB1 := Lib.hid (HB.out.trans (hb1.mono HB.out.size)); clear hb1)
    go_ret
    exact ⟨rfl, HB1.out⟩
  rw [hr] at RR
  have hR := (rightB_iff g).1 hr
  by_cases h0 : ag < 0
  · have E := Lib.hid (rtB_not (g := g) (en := en) (ag := ag) (fun q => by have := q.h0; omega))
    rw [E.out]
    clear h hb hr hrow
    go_enter Try.func89, Try.ntmps89
    go_wp2_with (go_at_call 28; refine RR.out.mono ?_; rintro e w1 ⟨rfl, hb1⟩; have HB1 := Lib.hid (HB.out.trans (hb1.mono HB.out.size)); clear hb1)
    go_ret
    exact ⟨rfl, HB1.out⟩
  by_cases h1 : 100 < ag
  · have E := Lib.hid (rtB_not (g := g) (en := en) (ag := ag) (fun q => by have := q.h1; omega))
    rw [E.out]
    clear h hb hr hrow
    go_enter Try.func89, Try.ntmps89
    go_wp2_with (go_at_call 28; refine RR.out.mono ?_; rintro e w1 ⟨rfl, hb1⟩; have HB1 := Lib.hid (HB.out.trans (hb1.mono HB.out.size)); clear hb1)
    go_ret
    exact ⟨rfl, HB1.out⟩
  by_cases hlen0 : ¬ en.length = nodesN g
  · have E := Lib.hid (rtB_not (g := g) (en := en) (ag := ag) (fun q => hlen0 q.len))
    rw [E.out]
    have hl2 : ¬ (en.length : Int) = (nodesN g : Int) := by omega
    clear h hb hr hrow
    generalize nodesN g = n at *
    have hl3 : ((en.length : Int) != (n : Int)) = true := by rw [bne_iff_ne]; exact hl2
    go_enter Try.func89, Try.ntmps89
    go_wp2_with (first
      | (go_at_call 28; refine RR.out.mono ?_; rintro e w1 ⟨rfl, hb1⟩; have HB1 := Lib.hid (HB.out.trans (hb1.mono HB.out.size)); have HX1 := Lib.hid (bheap hb1 X0.out); have c0 := cell_of_block HX1.out 0 _ rfl; have c1 := cell_of_block HX1.out 1 _ rfl; have c2 := cell_of_block HX1.out 2 _ rfl; clear hb1)
      | (go_at_call 30; refine (RN.out _ HB1.out).mono ?_; rintro e w2 ⟨rfl, hb2⟩; have HB2 := Lib.hid (HB1.out.trans (hb2.mono HB1.out.size)); clear hb2))
    go_ret
    exact ⟨rfl, HB2.out⟩
  have hlen := Decidable.of_not_not hlen0
  clear hlen0
  have hsz := h.sS
  have hsT := h.sT
  have hnn := nodesN_right hR
  have hne := hR.ne
  have hel : en.length ≤ 1000000 := by omega
  have HLEN := Lib.hid hlen
  have OE := Lib.hid (fun (i : Nat) e (he : e ∈ outL g (i : Int)) => And.intro (allL_mem hR (outL_mem.1 he).1) (outL_mem.1 he).2)
  have OLEN := Lib.hid (fun (i : Int) => Nat.le_trans (outL_len g i) h.sT)
  have HRT := Lib.hid (fun (h2 : ∀ i, i < en.length → ((en.getD i []).length : Int) = ag ∧ ∀ e ∈ outL g (i : Int), e.2.1 < ag ∧ (en.getD i []).getD e.2.1.toNat false = true) => rtB_yes (g := g) (en := en) (ag := ag) ⟨hR, by omega, by omega, hlen, fun i hi => (h2 i hi).1, fun e he => by
    have hm := allL_mem hR he
    have hi : e.1.toNat < en.length := by omega
    exact (h2 e.1.toNat hi).2 e (outL_mem.2 ⟨he, by omega⟩)⟩)
  have HNR := Lib.hid (fun i (hi : i < en.length) (h2 : ¬ ((en.getD i []).length : Int) = ag) => rtB_not (g := g) (en := en) (ag := ag) (fun q => h2 (q.rows i hi)))
  have HNE := Lib.hid (fun (i : Nat) e (he : e ∈ outL g (i : Int)) (h2 : ¬ (e.2.1 < ag ∧ (en.getD i []).getD e.2.1.toNat false = true)) => rtB_not (g := g) (en := en) (ag := ag) (fun q => h2 (by
    obtain ⟨h3, h4⟩ := outL_mem.1 he
    have := q.edges e h3
    rw [show e.1.toNat = i by omega] at this
    exact this)))
  have HNN := Lib.hid (show nodesN g = g.S.length - 1 from hnn)
  clear h hb hr hrow hR
  rw [← hlen] at RN
  clear hlen hnn hne hsz hsT
  have nl := ne_false (en.length : Int)
  have nl2 : ((en.length : Int) != (en.length : Int)) = false := by simp
  go_enter Try.func89, Try.ntmps89
  go_wp2_with (first
      | (go_at_call 28; refine RR.out.mono ?_; rintro e w1 ⟨rfl, hb1⟩; have HB1 := Lib.hid (HB.out.trans (hb1.mono HB.out.size)); have HX1 := Lib.hid (bheap hb1 X0.out); have c0 := cell_of_block HX1.out 0 _ rfl; have c1 := cell_of_block HX1.out 1 _ rfl; have c2 := cell_of_block HX1.out 2 _ rfl; clear hb1)
      | (go_at_call 30; refine (RN.out _ HB1.out).mono ?_; rintro e w2 ⟨rfl, hb2⟩; have HB2 := Lib.hid (HB1.out.trans (hb2.mono HB1.out.size)); have HX2 := Lib.hid (bheap hb2 HX1.out); clear hb2))
  clear c0 c1 c2
  go_loopg [31] en.length (fun fu c wr => ∃ i : Nat, i + fu = en.length ∧ c = .int .i64 i ∧ (∀ j, j < i → ((en.getD j []).length : Int) = ag ∧ ∀ e ∈ outL g (j : Int), e.2.1 < ag ∧ (en.getD j []).getD e.2.1.toNat false = true) ∧ Below w2.heap.size w2 wr)
  case atStart => exact ⟨0, by omega, rfl, fun j hj => by omega, Below.refl _ _⟩
  case round =>
    obtain ⟨i, hi, rfl, hall, hbr⟩ := hrel
    by_cases hlt : i < en.length
    · obtain ⟨b, off, uu, rfl, c1, r1⟩ := HRW.out i hlt
      have HBW := Lib.hid (HB2.out.trans (hbr.mono HB2.out.size))
      obtain ⟨ra, rc, rfl, hrb⟩ := r1
      have y1 := bkeep HBW.out c1
      have z1 : (i : Int) < (en.length : Int) := by omega
      have HAL := Lib.hid hall
      have HNI := Lib.hid (HNR.out i hlt)
      have HNEI := Lib.hid (HNE.out i)
      have HNX : Hid ((((en.getD i []).length : Int) = ag ∧ ∀ e ∈ outL g (i : Int), e.2.1 < ag ∧ (en.getD i []).getD e.2.1.toNat false = true) → ∀ j, j < i + 1 → ((en.getD j []).length : Int) = ag ∧ ∀ e ∈ outL g (j : Int), e.2.1 < ag ∧ (en.getD j []).getD e.2.1.toNat false = true) := Lib.hid (fun hne j hj => by
        by_cases e : j = i
        · rw [e]; exact hne
        · exact HAL.out j (by omega))
      have HRB := Lib.hid hrb
      have hx2 := bheap hbr HX2.out
      have c0 := cell_of_block hx2 0 _ rfl
      have c1' := cell_of_block hx2 1 _ rfl
      have c2 := cell_of_block hx2 2 _ rfl
      have HO := Lib.hid (RO.out wr HBW.out (i : Int))
      have hol := OLEN.out (i : Int)
      have HOE := Lib.hid (OE.out i)
      have HBR := Lib.hid hbr
      clear c1 hall hrb hx2 hbr
      generalize outL g (i : Int) = el at *
      obtain ⟨row, hrow⟩ : ∃ r, en.getD i [] = r := ⟨_, rfl⟩
      rw [hrow] at HNI HNEI HNX HRB y1
      try rw [hrow]
      clear hrow
      by_cases hrl : (row.length : Int) = ag
      · have n3 : ((row.length : Int) != ag) = false := by rw [hrl]; simp
        go_wp2_with (go_at_call 26; refine HO.out.mono ?_; rintro e w3 ⟨rv, rfl, hE, hb3⟩; obtain ⟨ea, ec, rfl, hE⟩ := hE; have HED := Lib.hid hE; have HB3 := Lib.hid (HBR.out.trans (hb3.mono HBR.out.size)); clear hb3 hE)
        clear c0 c1' c2 y1
        go_loopg [44] el.length (fun fu c wr => ∃ r : Nat, r + fu = el.length ∧ c = .int .i64 r ∧ (∀ q, q < r → (el.getD q (0, 0, 0)).2.1 < ag ∧ row.getD (el.getD q (0, 0, 0)).2.1.toNat false = true) ∧ Below w3.heap.size w3 wr)
        case atStart => exact ⟨0, by omega, rfl, fun j hj => by omega, Below.refl _ _⟩
        case round =>
          obtain ⟨r, hr, rfl, hall2, hbr2⟩ := hrel
          by_cases hlt3 : r < el.length
          · obtain ⟨b3, o3, rfl, e1, e2, e3⟩ := HED.out r hlt3
            have y1 := bkeep hbr2 e1
            have y2 := bkeep hbr2 e2
            have y3 := bkeep hbr2 e3
            have z3 : (r : Int) < (el.length : Int) := by omega
            have hin : el.getD r (0, 0, 0) ∈ el := by rw [List.getD_eq_getElem?_getD, List.getElem?_eq_getElem hlt3]; simp
            have hm := (HOE.out _ hin).1
            have HBAD := Lib.hid (HNEI.out _ hin)
            have HAL2 := Lib.hid hall2
            have HNX2 : Hid (((el.getD r (0, 0, 0)).2.1 < ag ∧ row.getD (el.getD r (0, 0, 0)).2.1.toNat false = true) → ∀ q, q < r + 1 → (el.getD q (0, 0, 0)).2.1 < ag ∧ row.getD (el.getD q (0, 0, 0)).2.1.toNat false = true) := Lib.hid (fun hne j hj => by
              by_cases e : j = r
              · rw [e]; exact hne
              · exact HAL2.out j (by omega))
            clear e1 e2 e3 hin hall2
            generalize el.getD r (0, 0, 0) = ed at *
            obtain ⟨ex, ey, ez⟩ := ed
            obtain ⟨h1, h2, h3, h4, h5⟩ := hm
            simp only at h1 h2 h3 h4 h5 y1 y2 y3 HBAD HNX2
            obtain ⟨q, rfl⟩ : ∃ q : Nat, ey = (q : Int) := ⟨ey.toNat, by omega⟩
            simp only [Int.toNat_natCast] at HBAD HNX2
            have hb4 := hbr2.trans ((balloc wr (.cells #[.int .i64 ex, .int .i64 (q : Nat), .int .i64 ez] 44)).mono hbr2.size)
            have HB4 := Lib.hid hb4
            have HB5 := Lib.hid (HB2.out.trans ((HB3.out.trans (hb4.mono HB3.out.size)).mono HB2.out.size))
            clear hb4 hbr2
            by_cases hq : (q : Int) < ag
            · obtain ⟨b6, o6, rfl, d6⟩ := HRB.out q (by omega)
              have y6 := bkeep HB5.out d6
              have z4 : (q : Int) < (row.length : Int) := by omega
              clear d6
              cases hx : row.getD q false
              · have E := Lib.hid (HBAD.out (fun z => by rw [hx] at z; exact absurd z.2 (by simp)))
                rw [hx] at y6
                clear hx
                go_wp2_with fail
                go_ret
                exact ⟨by rw [E.out]; rfl, HB5.out⟩
              · have E := Lib.hid (HNX2.out ⟨hq, hx⟩)
                rw [hx] at y6
                clear hx
                go_wp2_with fail
                go_roundg (el.length - (r + 1))
                case measure => omega
                case rel => exact ⟨r + 1, by omega, by simp, E.out, HB4.out⟩
            · have E := Lib.hid (HBAD.out (fun z => hq z.1))
              have hq2 : ag ≤ (q : Int) := by omega
              go_wp2_with fail
              go_ret
              exact ⟨by rw [E.out]; rfl, HB5.out⟩
          · obtain rfl : r = el.length := by omega
            have hne : ∀ e ∈ el, e.2.1 < ag ∧ row.getD e.2.1.toNat false = true := fun e he => by
              obtain ⟨j, hj, rfl⟩ := List.getElem_of_mem he
              have := hall2 j hj
              rwa [List.getD_eq_getElem?_getD, List.getElem?_eq_getElem hj] at this
            have HNE2 := Lib.hid (HNX.out ⟨hrl, hne⟩)
            go_wp2_with fail
            go_roundg (en.length - (i + 1))
            case measure => omega
            case rel => exact ⟨i + 1, by omega, by simp, HNE2.out, HB3.out.trans (hbr2.mono HB3.out.size)⟩
      · have E := Lib.hid (HNI.out hrl)
        have n3 : ((row.length : Int) != ag) = true := by rw [bne_iff_ne]; exact hrl
        go_wp2_with fail
        go_ret
        exact ⟨by rw [E.out]; rfl, HBW.out⟩
    · obtain rfl : i = en.length := by omega
      have E := Lib.hid (HRT.out hall)
      go_wp2_with fail
      go_ret
      exact ⟨by rw [E.out]; rfl, HB2.out.trans (hbr.mono HB2.out.size)⟩
end Go.Proofs.Ytnlaonppgebpoaa

namespace Go.Proofs.Ytnlaonppgebpoaa
open Go.RowKit

/-- a mode: a function of two numbers -/
structure SpFn (M : Nat) (sp : Nat → Nat → Bool) : Prop where
  enters : Enters Try.prog M
  ok : ∀ (a b : Nat) (w : World), Calls Try.prog M #[.int .i64 (a : Nat), .int .i64 (b : Nat)] w fun en w' => en = .returned (.bool (sp a b)) ∧ Below w.heap.size w w'
def spW (a b : Nat) : Bool := decide (a = b)
def spS (a _b : Nat) : Bool := decide (0 < a)
def modeV (M : Nat) : Value := .agg #[.func (.func M) #[] #[]]
set_option maxRecDepth 100000 in
theorem sp_weak : SpFn 108 spW := by
  refine ⟨enters_of Try.func108 (by kernel_rfl) rfl, ?_⟩
  intro a b w
  go_enter Try.func108, Try.ntmps108
  go_wp2_with fail
  go_ret
  refine ⟨?_, Below.refl _ _⟩
  show Ending.returned (Value.bool ((a : Int) == (b : Int))) = _
  have : ((a : Int) == (b : Int)) = spW a b := by
    unfold spW
    by_cases h : a = b
    · simp [h]
    · have h2 : ¬ (a : Int) = (b : Int) := by omega
      simp [h, h2]
  rw [this]
set_option maxRecDepth 100000 in
theorem sp_strong : SpFn 109 spS := by
  refine ⟨enters_of Try.func109 (by kernel_rfl) rfl, ?_⟩
  intro a b w
  go_enter Try.func109, Try.ntmps109
  go_wp2_with fail
  go_ret
  exact ⟨by simp [spS], Below.refl _ _⟩
set_option maxRecDepth 100000 in
theorem mode_weak (w : World) : Calls Try.prog 90 #[.int .i64 1] w fun e w' => e = .returned (.tuple #[modeV 108, .bool true]) ∧ Below w.heap.size w w' := by
  have HB := Lib.hid (balloc w (.cells #[.func (.func 108) #[] #[]] 91))
  go_enter Try.func90, Try.ntmps90
  go_wp2_with fail
  refine bodyPost_ret (v := .tuple #[modeV 108, .bool true]) (by simp [results, Try.results90, go_sem, modeV]) rfl ?_
  exact ⟨rfl, HB.out⟩
set_option maxRecDepth 100000 in
theorem mode_strong (w : World) : Calls Try.prog 90 #[.int .i64 2] w fun e w' => e = .returned (.tuple #[modeV 109, .bool true]) ∧ Below w.heap.size w w' := by
  have HB := Lib.hid (balloc w (.cells #[.func (.func 109) #[] #[]] 91))
  go_enter Try.func90, Try.ntmps90
  go_wp2_with fail
  refine bodyPost_ret (v := .tuple #[modeV 109, .bool true]) (by simp [results, Try.results90, go_sem, modeV]) rfl ?_
  exact ⟨rfl, HB.out⟩
set_option maxRecDepth 100000 in
theorem mode_none (how : Int) (w : World) (h1 : how ≠ 1) (h2 : how ≠ 2) : Calls Try.prog 90 #[.int .i64 how] w fun e w' => (∃ v, e = .returned (.tuple #[v, .bool false])) ∧ Below w.heap.size w w' := by
  have n1 : (how == 1) = false := by simp [h1]
  have n2 : (how == 2) = false := by simp [h2]
  go_enter Try.func90, Try.ntmps90
  go_wp2_with fail
  refine bodyPost_ret (v := .tuple #[.agg #[.nilFunc], .bool false]) (by simp [results, Try.results90, go_sem]) rfl ?_
  exact ⟨⟨_, rfl⟩, balloc w _⟩

/-- at how many nodes an agent is enabled, of the first k of a part -/
def cntK (en : List (List Bool)) (part : List Int) (a k : Nat) : Nat := ((part.take k).filter (fun i => (en.getD i.toNat []).getD a false)).length
theorem cntK_succ {en : List (List Bool)} {part : List Int} {a k : Nat} (h : k < part.length) : cntK en part a (k + 1) = if (en.getD (part.getD k 0).toNat []).getD a false = true then cntK en part a k + 1 else cntK en part a k := by
  have e : part.take (k + 1) = part.take k ++ [part.getD k 0] := by
    rw [List.take_add_one, List.getD_eq_getElem?_getD, List.getElem?_eq_getElem h]; rfl
  unfold cntK
  rw [e, List.filter_append, List.length_append]
  generalize part.getD k 0 = p
  by_cases hx : (en.getD p.toNat []).getD a false = true
  · rw [if_pos hx, List.filter_cons_of_pos (p := fun i : Int => (en.getD i.toNat []).getD a false) hx]; rfl
  · rw [if_neg hx, List.filter_cons_of_neg (p := fun i : Int => (en.getD i.toNat []).getD a false) hx]; rfl
theorem cntK_le (en : List (List Bool)) (part : List Int) (a k : Nat) : cntK en part a k ≤ k := by
  unfold cntK
  have h1 := List.length_filter_le (fun i : Int => (en.getD i.toNat []).getD a false) (part.take k)
  have h2 : (part.take k).length ≤ k := by rw [List.length_take]; exact Nat.min_le_left _ _
  omega
def cntN (en : List (List Bool)) (part : List Int) (a : Nat) : Nat := cntK en part a part.length
/-- who spoils a part, of the first k agents -/
def spB (g : Gr) (en : List (List Bool)) (sp : Nat → Nat → Bool) (part : List Int) (a : Nat) : Bool := !actB g part a && sp (cntN en part a) part.length
def spK (g : Gr) (en : List (List Bool)) (sp : Nat → Nat → Bool) (part : List Int) (k : Nat) : List Int := ((List.range k).filter (spB g en sp part)).map (fun k : Nat => (k : Int))
theorem spK_succ (g : Gr) (en : List (List Bool)) (sp : Nat → Nat → Bool) (part : List Int) (k : Nat) : spK g en sp part (k + 1) = if spB g en sp part k = true then spK g en sp part k ++ [(k : Int)] else spK g en sp part k := by
  unfold spK
  rw [List.range_succ, List.filter_append]
  by_cases hx : spB g en sp part k = true
  · rw [if_pos hx, List.filter_cons_of_pos hx]; simp
  · rw [if_neg hx, List.filter_cons_of_neg hx]; simp
theorem spK_len (g : Gr) (en : List (List Bool)) (sp : Nat → Nat → Bool) (part : List Int) (k : Nat) : (spK g en sp part k).length ≤ k := by
  have := List.length_filter_le (spB g en sp part) (List.range k)
  simpa [spK] using this
def IntsBack (w : World) (l : List Int) (e : Ending) (w' : World) : Prop := ∃ v, e = .returned v ∧ IntsAt w' v l ∧ Below w.heap.size w w'

theorem heap_alloc_two (w : World) (o1 o2 : Obj) : ((w.alloc o1).alloc o2).heap[w.heap.size + 1]? = some o2 := by
  have := heap_alloc_new (w.alloc o1) o2
  rwa [show (w.alloc o1).heap.size = w.heap.size + 1 by simp] at this
theorem own_more {w w' : World} {base : Nat} {e : TypeId} {size : Nat} {v : Value} {n : Nat} {xs : List Value} (h : w.ownsRow base e size v n xs) (hb : Below w.heap.size w w') : w'.ownsRow base e size v n xs := ownsRow_frm (F := fun _ => False) h (bfrm hb _) (fun _ _ => id)
/-- a table's value -/
def TabV (v u : Value) (A : Nat) (tv : Value) : Prop := ∃ s a t, v = .agg #[s, a, t] ∧ tv = .agg #[s, a, t, u, .int .i64 (A : Nat)]
set_option maxRecDepth 100000 in
set_option maxHeartbeats 16000000 in
theorem spoilers_ok {M : Nat} {sp : Nat → Nat → Bool} (T : SpFn M sp) (v u pv tv : Value) (g : Gr) (en : List (List Bool)) (A : Nat) (part : List Int) (w : World) (ht : TabV v u A tv) (h : GraphAt w v g) (hu : BRowsAt w u en) (hp : IntsAt w pv part) (hA : A ≤ 100)
    (hrows : ∀ i, i < en.length → (en.getD i []).length = A) (hin : ∀ x ∈ part, 0 ≤ x ∧ x < (en.length : Int)) (hel : en.length ≤ 1000000) (hl : part.length ≤ 1000000) (hw : ∀ e ∈ allL g, (Lit.int .i64 e.2.1).wf = true) :
    Calls Try.prog 94 #[tv, modeV M, pv] w (IntsBack w (spK g en sp part A)) := by
  obtain ⟨i0, hi0, hz0, hz1, hz2⟩ := info_parts (Try.info3)
  obtain ⟨sa, aa, ta, sc, ac, tc, rfl, -⟩ := h.var
  have HU := Lib.hid hu
  obtain ⟨ua, uc, rfl, hrow⟩ := hu
  obtain ⟨s0, a0, t0, e0, rfl⟩ := ht
  simp only [Value.agg.injEq, Array.mk.injEq, List.cons.injEq, and_true] at e0
  obtain ⟨rfl, rfl, rfl⟩ := e0
  have hwi : ∀ x ∈ part, (Lit.int .i64 x).wf = true := fun x hx => WalkArith.wf_i64 (by have := hin x hx; omega)
  have hb0 := balloc w (.cells #[.slice sa g.S.length sc, .slice aa g.A.length ac, .slice ta g.T.length tc, .slice ua en.length uc, .int .i64 (A : Nat)] 95)
  have hb := hb0.trans ((balloc (w.alloc (.cells #[.slice sa g.S.length sc, .slice aa g.A.length ac, .slice ta g.T.length tc, .slice ua en.length uc, .int .i64 (A : Nat)] 95)) (.cells #[.func (.func M) #[] #[]] 91)).mono hb0.size)
  have AC := Lib.hid (acting_ok _ pv g part _ (h.below hb) (hp.below hb) hwi hl hw)
  have HB := Lib.hid hb
  have X0 := Lib.hid (bheap (balloc (w.alloc (.cells #[.slice sa g.S.length sc, .slice aa g.A.length ac, .slice ta g.T.length tc, .slice ua en.length uc, .int .i64 (A : Nat)] 95)) (.cells #[.func (.func M) #[] #[]] 91)) (heap_alloc_new w (.cells #[.slice sa g.S.length sc, .slice aa g.A.length ac, .slice ta g.T.length tc, .slice ua en.length uc, .int .i64 (A : Nat)] 95)))
  have X1 := Lib.hid (heap_alloc_two w (.cells #[.slice sa g.S.length sc, .slice aa g.A.length ac, .slice ta g.T.length tc, .slice ua en.length uc, .int .i64 (A : Nat)] 95) (.cells #[.func (.func M) #[] #[]] 91))
  have HRW := Lib.hid hrow
  have HRL := Lib.hid hrows
  have HIN := Lib.hid (fun k (hk : k < part.length) => hin _ (getD_mem hk))
  have KS := Lib.hid (fun a k (hk : k < part.length) => cntK_succ (en := en) (a := a) hk)
  have KL := Lib.hid (fun a k => cntK_le en part a k)
  have K0 : Hid (∀ a, cntK en part a 0 = 0) := Lib.hid (fun a => rfl)
  have SS := Lib.hid (fun k => spK_succ g en sp part k)
  have SL := Lib.hid (fun k => spK_len g en sp part k)
  have S0 : Hid (spK g en sp part 0 = []) := Lib.hid rfl
  have SB : Hid (∀ a : Nat, spB g en sp part a = (!actB g part a && sp (cntK en part a part.length) part.length)) := Lib.hid (fun a => rfl)
  have AB := Lib.hid (fun a : Int => actB_iff (g := g) (l := part) (a := a))
  have TOK := Lib.hid T.ok
  have hE' : ∀ (args : Array Value) (w : World), (callFunc M args).run Try.prog w = .ok (.enter M args) w := T.enters
  obtain ⟨pa, pc, rfl, hpc⟩ := hp
  have HP := Lib.hid hpc
  clear h hb hb0 hin hrow hwi hw hrows T hpc
  generalize cntK en part = CK at *
  generalize spK g en sp part = SK at *
  generalize spB g en sp part = SBF at *
  generalize actB g part = AF at *
  generalize ActP g part = AP at *
  obtain ⟨n, hnn⟩ : ∃ n, part.length = n := ⟨_, rfl⟩
  rw [hnn] at HP hl KS HIN SB AC ⊢
  clear hnn
  obtain ⟨NB, hNB⟩ : ∃ z, n * 1000000 = z := ⟨_, rfl⟩
  rw [hNB] at AC
  clear hNB
  unfold modeV
  go_enter Try.func94, Try.ntmps94
  go_wp2_with (go_at_call 97; refine AC.out.mono ?_; rintro e w1 ⟨mb, m1, s1, N1, f1, rfl, hM, hF, hN, hmb, hb1⟩; have HM := Lib.hid hM; have HF := Lib.hid hF; have HB1 := Lib.hid (HB.out.trans (hb1.mono HB.out.size)); have Y0 := Lib.hid (bheap hb1 X0.out); have Y1 := Lib.hid (bheap hb1 X1.out); have c4 := cell_of_block Y0.out 4 _ rfl; clear hM hF hN hmb hb1)
  go_loopg [8, 19] A (fun fu lv c wr => ∃ k : Nat, k + fu = A ∧ c = .int .i64 k ∧ Hid (Below w1.heap.size w1 wr) ∧ Hid (wr.ownsRow w1.heap.size 3 1 lv (SK k).length ((SK k).map (Value.int .i64))))
  case atStart => exact ⟨0, by omega, rfl, Lib.hid (Below.refl _ _), Lib.hid (by rw [S0.out]; exact World.ownsRow_nil _ _ _ _)⟩
  case round =>
    clear X0 X1
    obtain ⟨k, hk, rfl, HB2, HO⟩ := hrel
    obtain ⟨W, rfl⟩ : ∃ z : World, z = wr := ⟨_, rfl⟩
    by_cases hlt : k < A
    · have z1 : (k : Int) < (A : Int) := by omega
      have HBW := Lib.hid (HB1.out.trans (HB2.out.mono HB1.out.size))
      go_wp2_with fail
      go_loopg [10, 24] n (fun fu nv c wr => ∃ j : Nat, j + fu = n ∧ c = .int .i64 j ∧ nv = .int .i64 (CK k j : Nat) ∧ W = wr)
      case atStart => exact ⟨0, by omega, rfl, by rw [K0.out]; rfl, rfl⟩
      case round =>
        obtain ⟨j, hj, rfl, rfl, rfl⟩ := hrel
        by_cases hlt2 : j < n
        · have z2 : (j : Int) < (n : Int) := by omega
          obtain ⟨b1, o1, rfl, d1⟩ := HP.out j hlt2
          have hi := HIN.out j hlt2
          have hks := KS.out k j hlt2
          have hkl := KL.out k j
          have y1 := bkeep HBW.out d1
          clear d1
          generalize part.getD j 0 = p at *
          obtain ⟨q, rfl⟩ : ∃ q : Nat, p = (q : Int) := ⟨p.toNat, by omega⟩
          rw [Int.toNat_natCast] at hks
          have hq : q < en.length := by omega
          have z3 : (q : Int) < (en.length : Int) := by omega
          obtain ⟨b2, o2, uu, rfl, c2, r2⟩ := HRW.out q hq
          have hrl := HRL.out q hq
          obtain ⟨ra, rc, rfl, r2⟩ := r2
          rw [hrl] at r2 c2
          obtain ⟨b3, o3, rfl, d3⟩ := r2 k hlt
          have y2 := bkeep HBW.out c2
          have y3 := bkeep HBW.out d3
          have hx0 := bheap HB2.out Y0.out
          have c3 := cell_of_block hx0 3 _ rfl
          have HKS := Lib.hid hks
          clear hks c2 d3 r2 hx0 hrl hi
          cases hx : (en.getD q []).getD k false
          · rw [hx] at y3 HKS
            have E := Lib.hid (show CK k (j + 1) = CK k j by rw [HKS.out]; rfl)
            clear hx
            go_wp2_with fail
            go_roundg (n - (j + 1))
            case measure => omega
            case rel => exact ⟨j + 1, by omega, by simp, by rw [E.out], rfl⟩
          · rw [hx] at y3 HKS
            have E := Lib.hid (show CK k (j + 1) = CK k j + 1 by rw [HKS.out]; rfl)
            clear hx
            have hwr : IntKind.i64.wrap ((CK k j : Int) + 1) = (CK k j : Int) + 1 := IntWalk.i64_in _ (by omega)
            go_wp2_with fail
            go_roundg (n - (j + 1))
            case measure => omega
            case rel => exact ⟨j + 1, by omega, by simp, by rw [E.out]; simp, rfl⟩
        · obtain rfl : j = n := by omega
          have HKW : Hid ((Lit.int .i64 ((k : Nat) : Int)).wf = true) := Lib.hid (WalkArith.wf_i64 (by omega))
          have HM2 := Lib.hid (HM.out.more HB2.out)
          have hf := HF.out (k : Int)
          have HSS := Lib.hid (SS.out k)
          have hsb := SB.out k
          have hsl := SL.out k
          obtain ⟨la, lc, rfl⟩ := own_var HO.out
          obtain ⟨row, hrow⟩ : ∃ r, SK k = r := ⟨_, rfl⟩
          rw [hrow] at HSS HO hsl
          try rw [hrow]
          have HROW := Lib.hid hrow
          clear hrow
          cases hac : AF (k : Int)
          · have hz : (f1 (k : Int)).getD 0 = 0 := by
              have h3 : ¬ 0 < (f1 (k : Int)).getD 0 := fun q => by rw [(AB.out _).2 (hf.2.2.1 q)] at hac; cases hac
              omega
            rw [hac] at hsb
            have hx0 := bheap HB2.out Y1.out
            have c3 := cell_of_block hx0 0 _ rfl
            have HC := Lib.hid (TOK.out (CK k j) j W)
            clear hac hf hx0
            cases hs : sp (CK k j) j
            · rw [hs] at hsb HC
              have E := Lib.hid (show SK (k + 1) = row by rw [HSS.out, hsb]; rfl)
              clear hsb hs
              go_wp2_with (first
                | (at_lookup; refine wp_lookT Try.underlying101 HM2.out rfl rfl rfl rfl HKW.out ?_)
                | (go_at_fn M; refine HC.out.mono ?_; rintro en w2 ⟨rfl, hb2⟩; have HB3 := Lib.hid hb2; clear hb2))
              go_roundg (A - (k + 1))
              case measure => omega
              case rel => exact ⟨k + 1, by omega, by simp, Lib.hid (HB2.out.trans (HB3.out.mono HB2.out.size)), Lib.hid (by rw [E.out]; exact own_more HO.out HB3.out)⟩
            · rw [hs] at hsb HC
              have E := Lib.hid (show SK (k + 1) = row ++ [(k : Int)] by rw [HSS.out, hsb]; rfl)
              clear hsb hs
              go_wp2_with (first
                | (at_lookup; refine wp_lookT Try.underlying101 HM2.out rfl rfl rfl rfl HKW.out ?_)
                | (go_at_fn M; refine HC.out.mono ?_; rintro en w2 ⟨rfl, hb2⟩; have HB3 := Lib.hid (HB2.out.trans (hb2.mono HB2.out.size)); have HO2 := Lib.hid (own_more HO.out hb2); clear hb2)
                | (at_builtin; refine wpList_append_lies (w2.alloc (.cells #[.int .i64 k] 3)) rfl (.tmp 51) (.tmp 53) 24 rfl w1.heap.size 3 i0 (.int .i64 0) 1 8 Try.underlying24 hi0 hz0 hz1 hz2 rfl (by decide) (.slice la row.length lc) row.length _ rfl (HO2.out.alloc _) ⟨w2.heap.size, 0, none⟩ 1 1 [.int .i64 k] rfl rfl (World.news_of_block (heap_alloc_new _ _)) (by simp [Value.oneCell']) (by omega) (by unfold maxLen; omega) (by omega) (by have := HB3.out.size; simp; omega) (w2.heap.size + 1) (by simp) ?_; intro g3 cap3 w3 hown3 hgr3 hor3 hlt3; have HO3 := Lib.hid hown3; have HB4 := Lib.hid (Below.own HB3.out HO2.out hgr3); clear hown3 hgr3 hor3))
              go_roundg (A - (k + 1))
              case measure => omega
              case rel => exact ⟨k + 1, by omega, by simp, HB4, Lib.hid (by rw [E.out, List.length_append, List.map_append]; exact HO3.out)⟩
          · have hz : 0 < (f1 (k : Int)).getD 0 := hf.2.2.2 ((AB.out _).1 hac)
            have hz2 : ¬ (f1 (k : Int)).getD 0 = 0 := by omega
            have hz3 : ((f1 (k : Int)).getD 0 == 0) = false := by simp [hz2]
            rw [hac] at hsb
            have E := Lib.hid (show SK (k + 1) = row by rw [HSS.out, hsb]; rfl)
            clear hac hf hsb
            go_wp2_with (first
                | (at_lookup; refine wp_lookT Try.underlying101 HM2.out rfl rfl rfl rfl HKW.out ?_))
            go_roundg (A - (k + 1))
            case measure => omega
            case rel => exact ⟨k + 1, by omega, by simp, HB2, Lib.hid (by rw [E.out]; exact HO.out)⟩
    · obtain rfl : k = A := by omega
      go_wp2_with fail
      go_ret
      exact ⟨_, rfl, own_ints HO.out, HB1.out.trans (HB2.out.mono HB1.out.size)⟩
end Go.Proofs.Ytnlaonppgebpoaa

namespace Go.Proofs.Ytnlaonppgebpoaa
open Go.RowKit

set_option maxRecDepth 100000 in
set_option maxHeartbeats 16000000 in
theorem count_ok (u pv : Value) (en : List (List Bool)) (A k : Nat) (part : List Int) (w : World) (hu : BRowsAt w u en) (hp : IntsAt w pv part)
    (hrows : ∀ i, i < en.length → (en.getD i []).length = A) (hk : k < A) (hin : ∀ x ∈ part, 0 ≤ x ∧ x < (en.length : Int)) (_hel : en.length ≤ 1000000) (hl : part.length ≤ 1000000) :
    Calls Try.prog 110 #[u, pv, .int .i64 (k : Nat)] w fun e w' => e = .returned (.int .i64 (cntN en part k : Nat)) ∧ Below w.heap.size w w' := by
  obtain ⟨ua, uc, rfl, hrow⟩ := hu
  have HRW := Lib.hid hrow
  have HRL := Lib.hid hrows
  have HIN := Lib.hid (fun k (hk : k < part.length) => hin _ (getD_mem hk))
  have KS := Lib.hid (fun j (hj : j < part.length) => cntK_succ (en := en) (a := k) hj)
  have KL := Lib.hid (fun j => cntK_le en part k j)
  have K0 : Hid (cntK en part k 0 = 0) := Lib.hid rfl
  obtain ⟨pa, pc, rfl, hpc⟩ := hp
  have HP := Lib.hid hpc
  unfold cntN
  clear hin hrow hrows hpc
  generalize cntK en part k = CK at *
  obtain ⟨n, hnn⟩ : ∃ n, part.length = n := ⟨_, rfl⟩
  rw [hnn] at HP hl KS HIN ⊢
  clear hnn
  go_enter Try.func110, Try.ntmps110
  go_wp2_with fail
  go_loopg [7, 8] n (fun fu nv c wr => ∃ j : Nat, j + fu = n ∧ c = .int .i64 j ∧ nv = .int .i64 (CK j : Nat) ∧ Below w.heap.size w wr)
  case atStart => exact ⟨0, by omega, rfl, by rw [K0.out]; rfl, Below.refl _ _⟩
  case round =>
    obtain ⟨j, hj, rfl, rfl, hbr⟩ := hrel
    by_cases hlt2 : j < n
    · have z2 : (j : Int) < (n : Int) := by omega
      obtain ⟨b1, o1, rfl, d1⟩ := HP.out j hlt2
      have hi := HIN.out j hlt2
      have hks := KS.out j hlt2
      have hkl := KL.out j
      have y1 := bkeep hbr d1
      clear d1
      generalize part.getD j 0 = p at *
      obtain ⟨q, rfl⟩ : ∃ q : Nat, p = (q : Int) := ⟨p.toNat, by omega⟩
      rw [Int.toNat_natCast] at hks
      have hq : q < en.length := by omega
      have z3 : (q : Int) < (en.length : Int) := by omega
      obtain ⟨b2, o2, uu, rfl, c2, r2⟩ := HRW.out q hq
      have hrl := HRL.out q hq
      obtain ⟨ra, rc, rfl, r2⟩ := r2
      rw [hrl] at r2 c2
      obtain ⟨b3, o3, rfl, d3⟩ := r2 k hk
      have y2 := bkeep hbr c2
      have y3 := bkeep hbr d3
      have z4 : (k : Int) < (A : Int) := by omega
      have HKS := Lib.hid hks
      have HBR := Lib.hid hbr
      clear hks c2 d3 r2 hrl hi hbr
      cases hx : (en.getD q []).getD k false
      · rw [hx] at y3 HKS
        have E := Lib.hid (show CK (j + 1) = CK j by rw [HKS.out]; rfl)
        clear hx
        go_wp2_with fail
        (try (refine region_still (by kernel_rfl) (by kernel_rfl) ?_; (repeat still_step); refine wpStill_nil ?_; go_wp2_with fail))
        go_roundg (n - (j + 1))
        case measure => omega
        case rel => exact ⟨j + 1, by omega, by simp, by rw [E.out], by first | exact HBR.out | exact HBR.out.drew⟩
      · rw [hx] at y3 HKS
        have E := Lib.hid (show CK (j + 1) = CK j + 1 by rw [HKS.out]; rfl)
        clear hx
        have hwr : IntKind.i64.wrap ((CK j : Int) + 1) = (CK j : Int) + 1 := IntWalk.i64_in _ (by omega)
        go_wp2_with fail
        (try (refine region_still (by kernel_rfl) (by kernel_rfl) ?_; (repeat still_step); refine wpStill_nil ?_; go_wp2_with fail))
        go_roundg (n - (j + 1))
        case measure => omega
        case rel => exact ⟨j + 1, by omega, by simp, by rw [E.out]; simp, by first | exact HBR.out | exact HBR.out.drew⟩
    · obtain rfl : j = n := by omega
      go_wp2_with fail
      go_ret
      exact ⟨rfl, hbr⟩

/-- a part is fair -/
noncomputable def fairB (g : Gr) (en : List (List Bool)) (sp : Nat → Nat → Bool) (A : Nat) (part : List Int) : Bool := cycB g part && decide ((spK g en sp part A).length = 0)
theorem spK_nil {g : Gr} {en : List (List Bool)} {sp : Nat → Nat → Bool} {part : List Int} {A : Nat} : (spK g en sp part A).length = 0 ↔ ∀ a, a < A → spB g en sp part a = false := by
  unfold spK
  rw [List.length_map, List.length_eq_zero_iff, List.filter_eq_nil_iff]
  constructor
  · intro h a ha
    have := h a (List.mem_range.2 ha)
    cases hh : spB g en sp part a
    · rfl
    · exact absurd hh this
  · intro h a ha
    rw [h a (List.mem_range.1 ha)]; simp
set_option maxRecDepth 100000 in
set_option maxHeartbeats 16000000 in
theorem fair_ok {M : Nat} {sp : Nat → Nat → Bool} (T : SpFn M sp) (v u pv tv : Value) (g : Gr) (en : List (List Bool)) (A : Nat) (part : List Int) (w : World) (ht : TabV v u A tv) (h : GraphAt w v g) (hu : BRowsAt w u en) (hp : IntsAt w pv part) (hA : A ≤ 100)
    (hrows : ∀ i, i < en.length → (en.getD i []).length = A) (hin : ∀ x ∈ part, 0 ≤ x ∧ x < (en.length : Int)) (hel : en.length ≤ 1000000) (hl : part.length ≤ 1000000) (hw : ∀ e ∈ allL g, (Lit.int .i64 e.2.1).wf = true) :
    Calls Try.prog 91 #[tv, modeV M, pv] w fun e w' => e = .returned (.bool (fairB g en sp A part)) ∧ Below w.heap.size w w' := by
  obtain ⟨sa, aa, ta, sc, ac, tc, rfl, -⟩ := h.var
  have HT := Lib.hid (fun (w' : World) (hb : Below w.heap.size w w') => spoilers_ok T _ u pv tv g en A part w' ht (h.below hb) (hu.below hb) (hp.below hb) hA hrows hin hel hl hw)
  have HU := Lib.hid hu
  obtain ⟨ua, uc, rfl, -⟩ := hu
  obtain ⟨s0, a0, t0, e0, rfl⟩ := ht
  simp only [Value.agg.injEq, Array.mk.injEq, List.cons.injEq, and_true] at e0
  obtain ⟨rfl, rfl, rfl⟩ := e0
  have hwi : ∀ x ∈ part, (Lit.int .i64 x).wf = true := fun x hx => WalkArith.wf_i64 (by have := hin x hx; omega)
  have hb0 := balloc w (.cells #[.slice sa g.S.length sc, .slice aa g.A.length ac, .slice ta g.T.length tc, .slice ua en.length uc, .int .i64 (A : Nat)] 95)
  have hb := hb0.trans ((balloc (w.alloc (.cells #[.slice sa g.S.length sc, .slice aa g.A.length ac, .slice ta g.T.length tc, .slice ua en.length uc, .int .i64 (A : Nat)] 95)) (.cells #[.func (.func M) #[] #[]] 91)).mono hb0.size)
  have HC := Lib.hid (cyc_ok _ pv g part _ (h.below hb) (hp.below hb) hwi hl)
  have HB := Lib.hid hb
  have X0 := Lib.hid (bheap (balloc (w.alloc (.cells #[.slice sa g.S.length sc, .slice aa g.A.length ac, .slice ta g.T.length tc, .slice ua en.length uc, .int .i64 (A : Nat)] 95)) (.cells #[.func (.func M) #[] #[]] 91)) (heap_alloc_new w (.cells #[.slice sa g.S.length sc, .slice aa g.A.length ac, .slice ta g.T.length tc, .slice ua en.length uc, .int .i64 (A : Nat)] 95)))
  have X1 := Lib.hid (heap_alloc_two w (.cells #[.slice sa g.S.length sc, .slice aa g.A.length ac, .slice ta g.T.length tc, .slice ua en.length uc, .int .i64 (A : Nat)] 95) (.cells #[.func (.func M) #[] #[]] 91))
  obtain ⟨pa, pc, rfl, -⟩ := hp
  have SL := spK_len g en sp part A
  unfold modeV at HT ⊢
  unfold fairB
  clear h hb hb0 hin hwi hw hrows T
  generalize spK g en sp part A = SK at *
  cases hc : cycB g part
  · rw [hc] at HC
    clear hc
    go_enter Try.func91, Try.ntmps91
    go_wp2_with (go_at_call 50; refine HC.out.mono ?_; rintro e w1 ⟨rfl, hb1⟩; have HB1 := Lib.hid (HB.out.trans (hb1.mono HB.out.size)); clear hb1)
    go_ret
    exact ⟨rfl, HB1.out⟩
  · rw [hc] at HC
    clear hc
    by_cases hs : SK.length = 0
    · rw [decide_eq_true hs]
      go_enter Try.func91, Try.ntmps91
      go_wp2_with (first
        | (go_at_call 50; refine HC.out.mono ?_; rintro e w1 ⟨rfl, hb1⟩; have HB1 := Lib.hid (HB.out.trans (hb1.mono HB.out.size)); have y0 := bheap hb1 X0.out; have y1 := bheap hb1 X1.out; have c0 := cell_of_block y0 0 _ rfl; have c1 := cell_of_block y0 1 _ rfl; have c2 := cell_of_block y0 2 _ rfl; have c3 := cell_of_block y0 3 _ rfl; have c4 := cell_of_block y0 4 _ rfl; have c5 := cell_of_block y1 0 _ rfl; clear hb1 y0 y1)
        | (go_at_call 94; refine (HT.out _ HB1.out).mono ?_; rintro e w2 ⟨rv, rfl, ⟨ra, rc, rfl, -⟩, hb2⟩; have HB2 := Lib.hid (HB1.out.trans (hb2.mono HB1.out.size)); clear hb2))
      go_ret
      exact ⟨by simp, HB2.out⟩
    · rw [decide_eq_false hs]
      have hs2 : ((SK.length : Int) == 0) = false := by simp [hs]
      go_enter Try.func91, Try.ntmps91
      go_wp2_with (first
        | (go_at_call 50; refine HC.out.mono ?_; rintro e w1 ⟨rfl, hb1⟩; have HB1 := Lib.hid (HB.out.trans (hb1.mono HB.out.size)); have y0 := bheap hb1 X0.out; have y1 := bheap hb1 X1.out; have c0 := cell_of_block y0 0 _ rfl; have c1 := cell_of_block y0 1 _ rfl; have c2 := cell_of_block y0 2 _ rfl; have c3 := cell_of_block y0 3 _ rfl; have c4 := cell_of_block y0 4 _ rfl; have c5 := cell_of_block y1 0 _ rfl; clear hb1 y0 y1)
        | (go_at_call 94; refine (HT.out _ HB1.out).mono ?_; rintro e w2 ⟨rv, rfl, ⟨ra, rc, rfl, -⟩, hb2⟩; have HB2 := Lib.hid (HB1.out.trans (hb2.mono HB1.out.size)); clear hb2))
      go_ret
      exact ⟨by simp, HB2.out⟩
end Go.Proofs.Ytnlaonppgebpoaa

namespace Go.Proofs.Ytnlaonppgebpoaa
open Go.RowKit

theorem decide_all_no {k A : Nat} {p : Nat → Bool} (hk : k < A) (h : p k = true) : ¬ ∀ a, a < A → p a = false := fun q => by rw [q k hk] at h; cases h

set_option maxRecDepth 100000 in
set_option maxHeartbeats 16000000 in
theorem rfair_weak (v u pv : Value) (g : Gr) (en : List (List Bool)) (A : Nat) (part : List Int) (w : World) (h : GraphAt w v g) (hu : BRowsAt w u en) (hp : IntsAt w pv part) (hA : A ≤ 100)
    (hrows : ∀ i, i < en.length → (en.getD i []).length = A) (hin : ∀ x ∈ part, 0 ≤ x ∧ x < (en.length : Int)) (hel : en.length ≤ 1000000) (hl : part.length ≤ 1000000) :
    Calls Try.prog 92 #[v, u, .int .i64 (A : Nat), .int .i64 1, pv] w fun e w' => e = .returned (.bool (fairB g en spW A part)) ∧ Below w.heap.size w w' := by
  obtain ⟨sa, aa, ta, sc, ac, tc, rfl, -⟩ := h.var
  have hb := balloc w (.cells #[.slice sa g.S.length sc, .slice aa g.A.length ac, .slice ta g.T.length tc] 26)
  have HC := Lib.hid (fun (w' : World) (hb : Below w.heap.size w w') (k : Nat) (hk : k < A) => count_ok u pv en A k part w' (hu.below hb) (hp.below hb) hrows hk hin hel hl)
  have HX := Lib.hid (fun (w' : World) (hb : Below w.heap.size w w') (k : Nat) => racts_ok _ pv g part (k : Int) w' (h.below hb) (hp.below hb) hl)
  have HY := Lib.hid (fun (w' : World) (hb : Below w.heap.size w w') => rcyc_ok _ pv g part w' (h.below hb) (hp.below hb) hl)
  have HB := Lib.hid hb
  have X0 := Lib.hid (heap_alloc_new w (.cells #[.slice sa g.S.length sc, .slice aa g.A.length ac, .slice ta g.T.length tc] 26))
  have SB : Hid (∀ a : Nat, spB g en spW part a = (!actB g part a && spW (cntN en part a) part.length)) := Lib.hid (fun a => rfl)
  have KL := Lib.hid (fun k => cntK_le en part k part.length)
  obtain ⟨pa, pc, rfl, -⟩ := hp
  obtain ⟨ua, uc, rfl, -⟩ := hu
  have FY : Hid ((∀ a, a < A → spB g en spW part a = false) → fairB g en spW A part = cycB g part) := Lib.hid (fun hh => by unfold fairB; rw [decide_eq_true (spK_nil.2 hh)]; simp)
  have FN : Hid (∀ k, k < A → spB g en spW part k = true → fairB g en spW A part = false) := Lib.hid (fun k hk hh => by unfold fairB; rw [decide_eq_false (fun q => decide_all_no hk hh (spK_nil.1 q))]; simp)
  clear h hb hin hrows
  unfold cntN at HC SB
  generalize fairB g en spW A part = FB at *
  generalize spB g en spW part = SBF at *
  generalize cycB g part = CY at *
  obtain ⟨CK, hCK⟩ : ∃ f : Nat → Nat, (fun a => cntK en part a part.length) = f := ⟨_, rfl⟩
  have hck : ∀ a, cntK en part a part.length = CK a := fun a => by rw [← hCK]
  simp only [hck] at HC SB KL
  clear hck hCK
  generalize actB g part = AF at *
  obtain ⟨n, hnn⟩ : ∃ n, part.length = n := ⟨_, rfl⟩
  rw [hnn] at HC HX HY SB KL hl ⊢
  clear hnn
  go_enter Try.func92, Try.ntmps92
  go_wp2_with fail
  go_loopg [11] A (fun fu c wr => ∃ k : Nat, k + fu = A ∧ c = .int .i64 k ∧ (∀ a, a < k → SBF a = false) ∧ Hid (Below (w.alloc (.cells #[.slice sa g.S.length sc, .slice aa g.A.length ac, .slice ta g.T.length tc] 26)).heap.size (w.alloc (.cells #[.slice sa g.S.length sc, .slice aa g.A.length ac, .slice ta g.T.length tc] 26)) wr))
  case atStart => exact ⟨0, by omega, rfl, fun a ha => by omega, Lib.hid (Below.refl _ _)⟩
  case round =>
    obtain ⟨k, hk, rfl, hall, HB0⟩ := hrel
    have HBR := Lib.hid (HB.out.trans (HB0.out.mono HB.out.size))
    have HX0 := Lib.hid (bheap HB0.out X0.out)
    have HAL := Lib.hid hall
    clear hall
    have c0 := cell_of_block HX0.out 0 _ rfl
    have c1 := cell_of_block HX0.out 1 _ rfl
    have c2 := cell_of_block HX0.out 2 _ rfl
    by_cases hlt : k < A
    · have z1 : (k : Int) < (A : Int) := by omega
      have HC1 := Lib.hid (HC.out wr HBR.out k hlt)
      have hsb := SB.out k
      have hkl := KL.out k
      have HNX : Hid (SBF k = false → ∀ a, a < k + 1 → SBF a = false) := Lib.hid (fun hne a ha => by
        by_cases e : a = k
        · rw [e]; exact hne
        · exact HAL.out a (by omega))
      have HFN := Lib.hid (FN.out k hlt)
      have HXX := Lib.hid (fun w' hw' => HX.out w' hw' k)
      obtain ⟨cn, hcn⟩ : ∃ z, CK k = z := ⟨_, rfl⟩
      rw [hcn] at HC1 hsb hkl
      clear hcn
      cases hac : AF (k : Int)
      · rw [hac] at hsb HXX
        clear hac
        by_cases hs : cn = n
        · have E := Lib.hid (HFN.out (by rw [hsb]; simp [spW, hs]))
          have z2 : ((cn : Int) == (n : Int)) = true := by simp [hs]
          go_wp2_with (first
            | (go_at_call 110; refine HC1.out.mono ?_; rintro e w1 ⟨rfl, hb1⟩; have HB1 := Lib.hid (HBR.out.trans (hb1.mono HBR.out.size)); have y := bheap hb1 HX0.out; have d0 := cell_of_block y 0 _ rfl; have d1 := cell_of_block y 1 _ rfl; have d2 := cell_of_block y 2 _ rfl; clear hb1 y)
            | (go_at_call 64; refine (HXX.out _ HB1.out).mono ?_; rintro e w2 ⟨rfl, hb2⟩; have HB2 := Lib.hid (HB1.out.trans (hb2.mono HB1.out.size)); clear hb2))
          go_ret
          exact ⟨by rw [E.out]; rfl, HB2.out⟩
        · have E := Lib.hid (HNX.out (by rw [hsb]; simp [spW, hs]))
          have z2 : ((cn : Int) == (n : Int)) = false := by simp; omega
          go_wp2_with (first
            | (go_at_call 110; refine HC1.out.mono ?_; rintro e w1 ⟨rfl, hb1⟩; have HB1 := Lib.hid (HBR.out.trans (hb1.mono HBR.out.size)); have HB3 := Lib.hid (HB0.out.trans (hb1.mono HB0.out.size)); have y := bheap hb1 HX0.out; have d0 := cell_of_block y 0 _ rfl; have d1 := cell_of_block y 1 _ rfl; have d2 := cell_of_block y 2 _ rfl; clear hb1 y)
            | (go_at_call 64; refine (HXX.out _ HB1.out).mono ?_; rintro e w2 ⟨rfl, hb2⟩; have HB2 := Lib.hid (HB3.out.trans (hb2.mono HB3.out.size)); clear hb2))
          go_roundg (A - (k + 1))
          case measure => omega
          case rel => exact ⟨k + 1, by omega, by simp, E.out, HB2⟩
      · rw [hac] at hsb HXX
        clear hac
        have E := Lib.hid (HNX.out (by rw [hsb]; rfl))
        go_wp2_with (first
            | (go_at_call 110; refine HC1.out.mono ?_; rintro e w1 ⟨rfl, hb1⟩; have HB1 := Lib.hid (HBR.out.trans (hb1.mono HBR.out.size)); have HB3 := Lib.hid (HB0.out.trans (hb1.mono HB0.out.size)); have y := bheap hb1 HX0.out; have d0 := cell_of_block y 0 _ rfl; have d1 := cell_of_block y 1 _ rfl; have d2 := cell_of_block y 2 _ rfl; clear hb1 y)
            | (go_at_call 64; refine (HXX.out _ HB1.out).mono ?_; rintro e w2 ⟨rfl, hb2⟩; have HB2 := Lib.hid (HB3.out.trans (hb2.mono HB3.out.size)); clear hb2))
        go_roundg (A - (k + 1))
        case measure => omega
        case rel => exact ⟨k + 1, by omega, by simp, E.out, HB2⟩
    · obtain rfl : k = A := by omega
      have E := Lib.hid (FY.out HAL.out)
      have HY1 := Lib.hid (HY.out wr HBR.out)
      go_wp2_with (go_at_call 51; refine HY1.out.mono ?_; rintro e w1 ⟨rfl, hb1⟩; have HB1 := Lib.hid (HBR.out.trans (hb1.mono HBR.out.size)); clear hb1)
      go_ret
      exact ⟨by rw [E.out]; rfl, HB1.out⟩

set_option maxRecDepth 100000 in
set_option maxHeartbeats 16000000 in
theorem rfair_strong (v u pv : Value) (g : Gr) (en : List (List Bool)) (A : Nat) (part : List Int) (w : World) (h : GraphAt w v g) (hu : BRowsAt w u en) (hp : IntsAt w pv part) (hA : A ≤ 100)
    (hrows : ∀ i, i < en.length → (en.getD i []).length = A) (hin : ∀ x ∈ part, 0 ≤ x ∧ x < (en.length : Int)) (hel : en.length ≤ 1000000) (hl : part.length ≤ 1000000) :
    Calls Try.prog 92 #[v, u, .int .i64 (A : Nat), .int .i64 2, pv] w fun e w' => e = .returned (.bool (fairB g en spS A part)) ∧ Below w.heap.size w w' := by
  obtain ⟨sa, aa, ta, sc, ac, tc, rfl, -⟩ := h.var
  have hb := balloc w (.cells #[.slice sa g.S.length sc, .slice aa g.A.length ac, .slice ta g.T.length tc] 26)
  have HC := Lib.hid (fun (w' : World) (hb : Below w.heap.size w w') (k : Nat) (hk : k < A) => count_ok u pv en A k part w' (hu.below hb) (hp.below hb) hrows hk hin hel hl)
  have HX := Lib.hid (fun (w' : World) (hb : Below w.heap.size w w') (k : Nat) => racts_ok _ pv g part (k : Int) w' (h.below hb) (hp.below hb) hl)
  have HY := Lib.hid (fun (w' : World) (hb : Below w.heap.size w w') => rcyc_ok _ pv g part w' (h.below hb) (hp.below hb) hl)
  have HB := Lib.hid hb
  have X0 := Lib.hid (heap_alloc_new w (.cells #[.slice sa g.S.length sc, .slice aa g.A.length ac, .slice ta g.T.length tc] 26))
  have SB : Hid (∀ a : Nat, spB g en spS part a = (!actB g part a && spS (cntN en part a) part.length)) := Lib.hid (fun a => rfl)
  have KL := Lib.hid (fun k => cntK_le en part k part.length)
  obtain ⟨pa, pc, rfl, -⟩ := hp
  obtain ⟨ua, uc, rfl, -⟩ := hu
  have FY : Hid ((∀ a, a < A → spB g en spS part a = false) → fairB g en spS A part = cycB g part) := Lib.hid (fun hh => by unfold fairB; rw [decide_eq_true (spK_nil.2 hh)]; simp)
  have FN : Hid (∀ k, k < A → spB g en spS part k = true → fairB g en spS A part = false) := Lib.hid (fun k hk hh => by unfold fairB; rw [decide_eq_false (fun q => decide_all_no hk hh (spK_nil.1 q))]; simp)
  clear h hb hin hrows
  unfold cntN at HC SB
  generalize fairB g en spS A part = FB at *
  generalize spB g en spS part = SBF at *
  generalize cycB g part = CY at *
  obtain ⟨CK, hCK⟩ : ∃ f : Nat → Nat, (fun a => cntK en part a part.length) = f := ⟨_, rfl⟩
  have hck : ∀ a, cntK en part a part.length = CK a := fun a => by rw [← hCK]
  simp only [hck] at HC SB KL
  clear hck hCK
  generalize actB g part = AF at *
  obtain ⟨n, hnn⟩ : ∃ n, part.length = n := ⟨_, rfl⟩
  rw [hnn] at HC HX HY SB KL hl ⊢
  clear hnn
  go_enter Try.func92, Try.ntmps92
  go_wp2_with fail
  go_loopg [11] A (fun fu c wr => ∃ k : Nat, k + fu = A ∧ c = .int .i64 k ∧ (∀ a, a < k → SBF a = false) ∧ Hid (Below (w.alloc (.cells #[.slice sa g.S.length sc, .slice aa g.A.length ac, .slice ta g.T.length tc] 26)).heap.size (w.alloc (.cells #[.slice sa g.S.length sc, .slice aa g.A.length ac, .slice ta g.T.length tc] 26)) wr))
  case atStart => exact ⟨0, by omega, rfl, fun a ha => by omega, Lib.hid (Below.refl _ _)⟩
  case round =>
    obtain ⟨k, hk, rfl, hall, HB0⟩ := hrel
    have HBR := Lib.hid (HB.out.trans (HB0.out.mono HB.out.size))
    have HX0 := Lib.hid (bheap HB0.out X0.out)
    have HAL := Lib.hid hall
    clear hall
    have c0 := cell_of_block HX0.out 0 _ rfl
    have c1 := cell_of_block HX0.out 1 _ rfl
    have c2 := cell_of_block HX0.out 2 _ rfl
    by_cases hlt : k < A
    · have z1 : (k : Int) < (A : Int) := by omega
      have HC1 := Lib.hid (HC.out wr HBR.out k hlt)
      have hsb := SB.out k
      have hkl := KL.out k
      have HNX : Hid (SBF k = false → ∀ a, a < k + 1 → SBF a = false) := Lib.hid (fun hne a ha => by
        by_cases e : a = k
        · rw [e]; exact hne
        · exact HAL.out a (by omega))
      have HFN := Lib.hid (FN.out k hlt)
      have HXX := Lib.hid (fun w' hw' => HX.out w' hw' k)
      obtain ⟨cn, hcn⟩ : ∃ z, CK k = z := ⟨_, rfl⟩
      rw [hcn] at HC1 hsb hkl
      clear hcn
      cases hac : AF (k : Int)
      · rw [hac] at hsb HXX
        clear hac
        by_cases hs : 0 < cn
        · have E := Lib.hid (HFN.out (by rw [hsb]; simp [spS, hs]))
          have z2 : (0 : Int) < (cn : Int) := by omega
          go_wp2_with (first
            | (go_at_call 110; refine HC1.out.mono ?_; rintro e w1 ⟨rfl, hb1⟩; have HB1 := Lib.hid (HBR.out.trans (hb1.mono HBR.out.size)); have y := bheap hb1 HX0.out; have d0 := cell_of_block y 0 _ rfl; have d1 := cell_of_block y 1 _ rfl; have d2 := cell_of_block y 2 _ rfl; clear hb1 y)
            | (go_at_call 64; refine (HXX.out _ HB1.out).mono ?_; rintro e w2 ⟨rfl, hb2⟩; have HB2 := Lib.hid (HB1.out.trans (hb2.mono HB1.out.size)); clear hb2))
          go_ret
          exact ⟨by rw [E.out]; rfl, HB2.out⟩
        · have E := Lib.hid (HNX.out (by rw [hsb]; simp [spS, hs]))
          have z2 : ¬ (0 : Int) < (cn : Int) := by omega
          go_wp2_with (first
            | (go_at_call 110; refine HC1.out.mono ?_; rintro e w1 ⟨rfl, hb1⟩; have HB1 := Lib.hid (HBR.out.trans (hb1.mono HBR.out.size)); have HB3 := Lib.hid (HB0.out.trans (hb1.mono HB0.out.size)); have y := bheap hb1 HX0.out; have d0 := cell_of_block y 0 _ rfl; have d1 := cell_of_block y 1 _ rfl; have d2 := cell_of_block y 2 _ rfl; clear hb1 y)
            | (go_at_call 64; refine (HXX.out _ HB1.out).mono ?_; rintro e w2 ⟨rfl, hb2⟩; have HB2 := Lib.hid (HB3.out.trans (hb2.mono HB3.out.size)); clear hb2))
          go_roundg (A - (k + 1))
          case measure => omega
          case rel => exact ⟨k + 1, by omega, by simp, E.out, HB2⟩
      · rw [hac] at hsb HXX
        clear hac
        have E := Lib.hid (HNX.out (by rw [hsb]; rfl))
        go_wp2_with (first
            | (go_at_call 110; refine HC1.out.mono ?_; rintro e w1 ⟨rfl, hb1⟩; have HB1 := Lib.hid (HBR.out.trans (hb1.mono HBR.out.size)); have HB3 := Lib.hid (HB0.out.trans (hb1.mono HB0.out.size)); have y := bheap hb1 HX0.out; have d0 := cell_of_block y 0 _ rfl; have d1 := cell_of_block y 1 _ rfl; have d2 := cell_of_block y 2 _ rfl; clear hb1 y)
            | (go_at_call 64; refine (HXX.out _ HB1.out).mono ?_; rintro e w2 ⟨rfl, hb2⟩; have HB2 := Lib.hid (HB3.out.trans (hb2.mono HB3.out.size)); clear hb2))
        go_roundg (A - (k + 1))
        case measure => omega
        case rel => exact ⟨k + 1, by omega, by simp, E.out, HB2⟩
    · obtain rfl : k = A := by omega
      have E := Lib.hid (FY.out HAL.out)
      have HY1 := Lib.hid (HY.out wr HBR.out)
      go_wp2_with (go_at_call 51; refine HY1.out.mono ?_; rintro e w1 ⟨rfl, hb1⟩; have HB1 := Lib.hid (HBR.out.trans (hb1.mono HBR.out.size)); clear hb1)
      go_ret
      exact ⟨by rw [E.out]; rfl, HB1.out⟩
end Go.Proofs.Ytnlaonppgebpoaa
