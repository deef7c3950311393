/-
  spinnakerlaw17.SccParts, SccWithin: the walks. (Written by gen_law17.py.)
-/
import Derived.Test.YtnlaonppgebpoaaKnown17
import Derived.Test.YtnlaonppgebpoaaLawReach
import Derived.Test.YtnlaonppgebpoaaAnyRel
namespace Go.Proofs.Ytnlaonppgebpoaa
open Go.RowKit

inductive RK3
  | eq (x : Value)
  | ints (l : List Int)
  | rows (l : List (List Int))
  | bools (l : List Bool)
def RK3.rel : RK3 → Value → World → Prop
  | .eq x, v, _ => v = x
  | .ints l, v, w => IntsAt w v l
  | .rows l, v, w => RowsAt w v l
  | .bools l, v, w => BoolsAt w v l
theorem RK3.mono (k : RK3) {v : Value} {w w' : World} (hb : Below w.heap.size w w') (h : k.rel v w) : k.rel v w' := by
  cases k with
  | eq x => exact h
  | ints l => exact IntsAt.below h hb
  | rows l => exact RowsAt.below h hb
  | bools l => exact BoolsAt.below h hb
def relL3 (ks : List RK3) (j : Nat) (v : Value) (w : World) : Prop := (ks.getD j (.eq undef)).rel v w
def IntsBack (w : World) (l : List Int) (e : Ending) (w' : World) : Prop := ∃ v, e = .returned v ∧ IntsAt w' v l ∧ Below w.heap.size w w'
theorem parts_back (v : Value) (g : Gr) (w : World) (h : GraphAt w v g) (hn : nodesN g ≤ 100000) : Calls Try.prog 43 #[v] w (IntsBack w (partsI g)) := by
  refine (parts_ok v g w h hn).mono ?_
  rintro e w' ⟨b, rfl, hh, hb⟩
  exact ⟨_, rfl, intsAt_block hh (partsI_len g).symm _, hb⟩
theorem rparts_back (v : Value) (g : Gr) (w : World) (h : GraphAt w v g) (hn : nodesN g ≤ 100000) : Calls Try.prog 44 #[v] w (IntsBack w (partsI g)) := rparts_ok v g w h hn
theorem rgroups_back (v : Value) (g : Gr) (w : World) (h : GraphAt w v g) (hn : nodesN g ≤ 100000) : Calls Try.prog 47 #[v] w (RowsBack w (groupsI g)) := by
  rw [groups_eq]; exact rgroupsF_ok v g w h hn
theorem rwithin_back (v u : Value) (g : Gr) (l : List Bool) (w : World) (h : GraphAt w v g) (hu : BoolsAt w u l) (hl : l.length ≤ 1000000) : Calls Try.prog 49 #[v, u] w (RowsBack w (withinI g l)) := by
  rw [within_eq]; exact rwithinF_ok v u g l w h hu hl
theorem grpI_len (ps : List Int) (inn : Nat → Bool) : (grpI ps inn).length ≤ ps.length ∧ ∀ r ∈ grpI ps inn, r.length ≤ ps.length := by
  constructor
  · unfold grpI; rw [rowsI_len]; exact grp_len _
  · intro r hr
    unfold grpI rowsI grp at hr
    simp only [List.mem_map] at hr
    obtain ⟨r', ⟨j, hj, rfl⟩, rfl⟩ := hr
    rw [List.length_map]
    exact rowOf_len _ _

set_option maxRecDepth 100000 in
set_option maxHeartbeats 16000000 in
theorem sccParts (v : Value) (g : Gr) (w : World) (hG : GraphArg w v g) :
    Calls Try.prog 8 #[v] w fun e w' => e = .returned (.bool true) ∧ Below w.heap.size w w' := by
  obtain ⟨sa, aa, ta, sc, ac, tc, rfl⟩ := hG.var
  have hs := varst_start w #[.slice sa g.S.length sc, .slice aa g.A.length ac, .slice ta g.T.length tc]
  have HL := Lib.hid (hG.below hs.below).light
  have HS := Lib.hid hs
  cases hlit : lit3 g.S.length g.T.length g.A.length
  · rw [hlit] at HL
    clear hG hs hlit
    go_enter Try.func8, Try.ntmps8
    go_wp2_with (first
      | (go_at_call 25; refine HL.out.mono ?_; rintro e w1 ⟨rfl, hb⟩; have S1 := Lib.hid (HS.out.more hb))
      | (go_at_call 41; refine (known17 _).mono ?_; rintro e w5 ⟨rfl, hb⟩; have S5 := Lib.hid (S1.out.more hb)))
    go_ret
    exact ⟨rfl, S5.out.below⟩
  rw [hlit] at HL
  have hAt := hG.at hlit
  have hsz := (lit3_spec hlit).1
  have HAT := Lib.hid hAt
  have hnn : nodesN g ≤ 100 := by
    cases h : rightB g
    · rw [nodesN_not h]; omega
    · rw [nodesN_right ((rightB_iff g).1 h)]; omega
  have HN : Hid (nodesN g ≤ 100000) := Lib.hid (by omega)
  have HPL : Hid ((partsI g).length ≤ 1000000) := Lib.hid (by rw [partsI_len]; omega)
  have HGL : Hid ((groupsI g).length ≤ 1000000 ∧ ∀ r ∈ groupsI g, r.length ≤ 1000000) := Lib.hid (by
    obtain ⟨h1, h2⟩ := grpI_len (partsI g) (fun _ => true)
    rw [partsI_len] at h1 h2
    exact ⟨Nat.le_trans h1 (by omega), fun r hr => Nat.le_trans (h2 r hr) (by omega)⟩)
  clear hG hs hlit hAt hsz hnn
  go_enter Try.func8, Try.ntmps8
  go_wp2_with (first
    | (go_at_call 25; refine HL.out.mono ?_; rintro e w1 ⟨rfl, hb⟩; have S1 := Lib.hid (HS.out.more hb); have c0 := cell_of_block S1.out.vg 0 _ rfl; have c1 := cell_of_block S1.out.vg 1 _ rfl; have c2 := cell_of_block S1.out.vg 2 _ rfl; clear hb))
  refine region_rel (fun q => if q = 2 then .bool false else undef)
    (fun f => { tmps := #[(.agg #[.slice sa g.S.length sc, .slice aa g.A.length ac, .slice ta g.T.length tc]), (.pointer (some ⟨w.heap.size, 0, none⟩)), f 2, (.agg #[.slice sa g.S.length sc, .slice aa g.A.length ac, .slice ta g.T.length tc]), .bool true, .bool false, undef, f 7, f 8, f 9, f 10, f 11, f 12, f 13, f 14, f 15, f 16, f 17, f 18, f 19, f 20, f 21], defers := [] }) (fun j => if j = 15 then 2 else j + 7)
    (relL3 [.eq (.agg #[.slice sa g.S.length sc, .slice aa g.A.length ac, .slice ta g.T.length tc]), .ints (partsI g), .eq (.agg #[.slice sa g.S.length sc, .slice aa g.A.length ac, .slice ta g.T.length tc]), .ints (partsI g), .eq (.bool true), .eq (.bool true), .eq (.agg #[.slice sa g.S.length sc, .slice aa g.A.length ac, .slice ta g.T.length tc]), .rows (groupsI g), .eq (.agg #[.slice sa g.S.length sc, .slice aa g.A.length ac, .slice ta g.T.length tc]), .rows (groupsI g), .eq (.bool true), .eq (.bool true), .eq (.bool true), .eq (.bool true), .eq (.bool true), .eq (.bool true)])
    rfl (by kernel_rfl) (fun i u w w' hb h => RK3.mono _ hb h) (by kernel_rfl) (by kernel_rfl) ?_ ?_ ?_
  · intro j hj f v
    rcases j with _ | _ | _ | _ | _ | _ | _ | _ | _ | _ | _ | _ | _ | _ | _ | _ | j
    all_goals first | rfl | (simp at hj; omega)
  · refine ⟨?_, ?_, ?_, ?_, ?_, ?_, ?_, ?_, ?_, ?_, ?_, ?_, ?_, ?_, ?_, ?_, trivial⟩
    · intro f w' hb hd K hK
      have e0 := bkeep hb c0
      have e1 := bkeep hb c1
      have e2 := bkeep hb c2
      dsimp only
      go_simp
      exact hK (.agg #[.slice sa g.S.length sc, .slice aa g.A.length ac, .slice ta g.T.length tc]) w' (Below.refl _ _) rfl
    · intro f w' hb hd K hK
      have h0 : f 7 = (.agg #[.slice sa g.S.length sc, .slice aa g.A.length ac, .slice ta g.T.length tc]) := hd 0 (by kernel_rfl)
      have HO := Lib.hid (parts_back _ g w' (HAT.out.below (S1.out.drew.more hb).below) HN.out)
      dsimp only
      go_simp
      go_wp2_with (go_at_call 43; refine HO.out.mono ?_; rintro e w2 ⟨lv, rfl, hE, hb2⟩)
      have q := hK lv w2 hb2 hE
      simp only [h0] at q
      exact q
    · intro f w' hb hd K hK
      have e0 := bkeep hb c0
      have e1 := bkeep hb c1
      have e2 := bkeep hb c2
      dsimp only
      go_simp
      exact hK (.agg #[.slice sa g.S.length sc, .slice aa g.A.length ac, .slice ta g.T.length tc]) w' (Below.refl _ _) rfl
    · intro f w' hb hd K hK
      have h0 : f 9 = (.agg #[.slice sa g.S.length sc, .slice aa g.A.length ac, .slice ta g.T.length tc]) := hd 2 (by kernel_rfl)
      have HO := Lib.hid (rparts_back _ g w' (HAT.out.below (S1.out.drew.more hb).below) HN.out)
      dsimp only
      go_simp
      go_wp2_with (go_at_call 44; refine HO.out.mono ?_; rintro e w2 ⟨lv, rfl, hE, hb2⟩)
      have q := hK lv w2 hb2 hE
      simp only [h0] at q
      exact q
    · intro f w' hb hd K hK
      have h0 : IntsAt w' (f 8) (partsI g) := hd 1 (by kernel_rfl)
      have h1 : IntsAt w' (f 10) (partsI g) := hd 3 (by kernel_rfl)
      have HO := Lib.hid (ints_same _ _ _ w' h0 h1 HPL.out)
      clear h0 h1
      dsimp only
      go_simp
      go_wp2_with (go_at_call 42; refine HO.out.mono ?_; rintro e w2 ⟨rfl, hb2⟩)
      exact hK (.bool true) w2 hb2 rfl
    · intro f w' hb hd K hK
      have h0 : f 11 = (.bool true) := hd 4 (by kernel_rfl)
      dsimp only
      go_simp
      have q := hK (.bool true) w' (Below.refl _ _) rfl
      simp only [h0] at q
      exact q
    · intro f w' hb hd K hK
      have hg : f 12 = .bool true := hd 5 (by kernel_rfl)
      have e0 := bkeep hb c0
      have e1 := bkeep hb c1
      have e2 := bkeep hb c2
      dsimp only
      go_simp
      have q := hK (.agg #[.slice sa g.S.length sc, .slice aa g.A.length ac, .slice ta g.T.length tc]) w' (Below.refl _ _) rfl
      simp only [hg] at q
      exact q
    · intro f w' hb hd K hK
      have hg : f 12 = .bool true := hd 5 (by kernel_rfl)
      have h0 : f 13 = (.agg #[.slice sa g.S.length sc, .slice aa g.A.length ac, .slice ta g.T.length tc]) := hd 6 (by kernel_rfl)
      have HO := Lib.hid (groupsF_ok _ g w' (HAT.out.below (S1.out.drew.more hb).below) HN.out)
      dsimp only
      go_simp
      go_wp2_with (go_at_call 46; refine HO.out.mono ?_; rintro e w2 ⟨lv, rfl, hE, hb2⟩)
      have q := hK lv w2 hb2 hE
      simp only [hg, h0] at q
      exact q
    · intro f w' hb hd K hK
      have hg : f 12 = .bool true := hd 5 (by kernel_rfl)
      have e0 := bkeep hb c0
      have e1 := bkeep hb c1
      have e2 := bkeep hb c2
      dsimp only
      go_simp
      have q := hK (.agg #[.slice sa g.S.length sc, .slice aa g.A.length ac, .slice ta g.T.length tc]) w' (Below.refl _ _) rfl
      simp only [hg] at q
      exact q
    · intro f w' hb hd K hK
      have hg : f 12 = .bool true := hd 5 (by kernel_rfl)
      have h0 : f 15 = (.agg #[.slice sa g.S.length sc, .slice aa g.A.length ac, .slice ta g.T.length tc]) := hd 8 (by kernel_rfl)
      have HO := Lib.hid (rgroups_back _ g w' (HAT.out.below (S1.out.drew.more hb).below) HN.out)
      dsimp only
      go_simp
      go_wp2_with (go_at_call 47; refine HO.out.mono ?_; rintro e w2 ⟨lv, rfl, hE, hb2⟩)
      have q := hK lv w2 hb2 hE
      simp only [hg, h0] at q
      exact q
    · intro f w' hb hd K hK
      have hg : f 12 = .bool true := hd 5 (by kernel_rfl)
      have h0 : RowsAt w' (f 14) (groupsI g) := hd 7 (by kernel_rfl)
      have h1 : RowsAt w' (f 16) (groupsI g) := hd 9 (by kernel_rfl)
      have HO := Lib.hid (rows_same _ _ _ w' h0 h1 HGL.out.1 HGL.out.2)
      clear h0 h1
      dsimp only
      go_simp
      go_wp2_with (go_at_call 45; refine HO.out.mono ?_; rintro e w2 ⟨rfl, hb2⟩)
      have q := hK (.bool true) w2 hb2 rfl
      simp only [hg] at q
      exact q
    · intro f w' hb hd K hK
      have h0 : f 12 = (.bool true) := hd 5 (by kernel_rfl)
      have h1 : f 17 = (.bool true) := hd 10 (by kernel_rfl)
      dsimp only
      go_simp
      have q := hK (.bool true) w' (Below.refl _ _) rfl
      simp only [h0, h1] at q
      exact q
    · intro f w' hb hd K hK
      have h0 : f 18 = (.bool true) := hd 11 (by kernel_rfl)
      dsimp only
      go_simp
      have q := hK (.bool true) w' (Below.refl _ _) rfl
      simp only [h0] at q
      exact q
    · intro f w' hb hd K hK
      have hg : f 19 = .bool true := hd 12 (by kernel_rfl)
      have HO := Lib.hid (known17 w')
      dsimp only
      go_simp
      go_wp2_with (go_at_call 41; refine HO.out.mono ?_; rintro e w2 ⟨rfl, hb2⟩)
      have q := hK (.bool true) w2 hb2 rfl
      simp only [hg] at q
      exact q
    · intro f w' hb hd K hK
      have h0 : f 19 = (.bool true) := hd 12 (by kernel_rfl)
      have h1 : f 20 = (.bool true) := hd 13 (by kernel_rfl)
      dsimp only
      go_simp
      have q := hK (.bool true) w' (Below.refl _ _) rfl
      simp only [h0, h1] at q
      exact q
    · intro f w' hb hd K hK
      have h0 : f 21 = (.bool true) := hd 14 (by kernel_rfl)
      dsimp only
      go_simp
      have q := hK (.bool true) w' (Below.refl _ _) rfl
      simp only [h0] at q
      exact q
  · intro f w' hb hr
    have h2 : f 2 = .bool true := hr 15 (by decide)
    have HB2 := Lib.hid ((S1.out.more hb).below)
    clear hr hb
    (try (dsimp only))
    rw [h2]
    generalize f 7 = x7
    generalize f 8 = x8
    generalize f 9 = x9
    generalize f 10 = x10
    generalize f 11 = x11
    generalize f 12 = x12
    generalize f 13 = x13
    generalize f 14 = x14
    generalize f 15 = x15
    generalize f 16 = x16
    generalize f 17 = x17
    generalize f 18 = x18
    generalize f 19 = x19
    generalize f 20 = x20
    generalize f 21 = x21
    go_wp2_with fail
    go_ret
    exact ⟨rfl, HB2.out⟩
end Go.Proofs.Ytnlaonppgebpoaa
