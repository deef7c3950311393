/-
  spinnakerlaw14.EdgesParts: the walk. (Written by gen_lawparts.py.)
-/
import Derived.Test.YtnlaonppgebpoaaLawReach
import Derived.Test.YtnlaonppgebpoaaAppend
import Derived.Test.YtnlaonppgebpoaaParts
namespace Go.Proofs.Ytnlaonppgebpoaa
open Go.RowKit

theorem ownsRow_more {w w' : World} {base : Nat} {e : TypeId} {size : Nat} {v : Value} {n : Nat} {xs : List Value} (h : w.ownsRow base e size v n xs) (hb : Below w.heap.size w w') : w'.ownsRow base e size v n xs := ownsRow_frm (F := fun _ => False) h (bfrm hb _) (fun _ _ => id)

set_option maxRecDepth 100000 in
set_option maxHeartbeats 16000000 in
theorem lawParts (v : Value) (g : Gr) (w : World) (hG : GraphArg w v g) :
    Calls Try.prog 7 #[v] w fun e w' => e = .returned (.bool true) ∧ Below w.heap.size w w' := by
  obtain ⟨sa, aa, ta, sc, ac, tc, rfl⟩ := hG.var
  have hs := varst_start w #[.slice sa g.S.length sc, .slice aa g.A.length ac, .slice ta g.T.length tc]
  have HL := Lib.hid (hG.below hs.below).light
  have HS := Lib.hid hs
  cases hlit : lit3 g.S.length g.T.length g.A.length
  · rw [hlit] at HL
    clear hG hs hlit
    go_enter Try.func7, Try.ntmps7
    go_wp2_with (first
      | (go_at_call 25; refine HL.out.mono ?_; rintro e w1 ⟨rfl, hb⟩; have S1 := Lib.hid (HS.out.more hb))
      | (go_at_call 20; refine (known14 _).mono ?_; rintro e w5 ⟨rfl, hb⟩; have S5 := Lib.hid (S1.out.more hb)))
    go_ret
    exact ⟨rfl, S5.out.below⟩
  rw [hlit] at HL
  have hAt := hG.at hlit
  have HR := Lib.hid (fun w' (hw : Below w.heap.size w w') => right_ok _ g w' (hAt.below hw))
  cases hr : rightB g
  · rw [hr] at HR
    clear hG hs hlit hAt
    go_enter Try.func7, Try.ntmps7
    go_wp2_with (first
      | (go_at_call 25; refine HL.out.mono ?_; rintro e w1 ⟨rfl, hb⟩; have S1 := Lib.hid (HS.out.more hb); have c0 := cell_of_block S1.out.vg 0 _ rfl; have c1 := cell_of_block S1.out.vg 1 _ rfl; have c2 := cell_of_block S1.out.vg 2 _ rfl)
      | (go_at_call 28; refine (HR.out _ S1.out.below).mono ?_; rintro e w2 ⟨rfl, hb2⟩; have S2 := Lib.hid (S1.out.more hb2))
      | (go_at_call 20; refine (known14 _).mono ?_; rintro e w5 ⟨rfl, hb5⟩; have S5 := Lib.hid (S2.out.more hb5)))
    go_ret
    exact ⟨rfl, S5.out.below⟩
  rw [hr] at HR
  have hR := (rightB_iff g).1 hr
  have hsz := (lit3_spec hlit).1
  have h1e5 : g.S.length ≤ 100000 := by omega
  have HN := Lib.hid (fun w' (hw : Below w.heap.size w w') => nodes_ok _ g w' (hAt.below hw))
  have HA := Lib.hid (fun w' (hw : Below w.heap.size w w') => all_any _ g w' (hAt.below hw))
  have HBk := Lib.hid (fun w' (hw : Below w.heap.size w w') => back_ok _ g w' (hAt.below hw))
  have HO := Lib.hid (fun i (hi : i < nodesN g) w' (hw : Below w.heap.size w w') => show Calls Try.prog 26 #[.agg #[.slice sa g.S.length sc, .slice aa g.A.length ac, .slice ta g.T.length tc], .int .i64 (i : Nat)] w' (EdgesBack w' (eds g i)) by have := out_ok _ g i w' (hAt.below hw); rw [outL_eds hR hi] at this; exact this)
  have HOB := Lib.hid (fun i (_ : i < nodesN g) vb w' (h : GraphAt w' vb (backG g)) => out_ok vb (backG g) (i : Nat) w' h)
  have PB := Lib.hid (fun i (hi : i < nodesN g) => back_out hR h1e5 hi)
  have PA := Lib.hid (back_all hR h1e5)
  have hnr := nodesN_right hR
  have hne := hR.ne
  have hst0 : st g 0 = 0 := by unfold st; rw [hR.first]; rfl
  have HST := Lib.hid hst0
  have hln := allL_len hR
  have hspan : ∀ i, i ≤ nodesN g → st g i ≤ 1000000 ∧ (span g 0 i).length = st g i := fun i hi => by
    have h1 := hR.stTop (i := i) (by omega)
    have h2 := span_len hR 0 i (by omega)
    have h3 := hAt.sT
    rw [hst0, Nat.zero_add] at h2
    exact ⟨by omega, h2⟩
  have HSP := Lib.hid hspan
  have hall : allL g = span g 0 (nodesN g) := by rw [allL_right hR, hnr]
  have HALL := Lib.hid hall
  have hstep : ∀ i, i < nodesN g → st g (i + 1) = st g i + (eds g i).length := fun i hi => by
    have := hR.stLe (i := i) (j := i + 1) (by omega) (by omega)
    rw [eds, edsN_len]; omega
  have HSTEP := Lib.hid hstep
  have hal : (allL g).length ≤ 1000000 := by rw [hln]; exact hAt.sT
  have hnn : nodesN g ≤ 1000000 := by omega
  obtain ⟨i0, hi0, hz0, hz1, hz2⟩ := info_parts Try.info44
  clear hG hs hlit hAt hR hr hst0 hspan hall hstep hnr hne hln h1e5 hsz
  generalize hB : backG g = B at *
  generalize hL : allL g = l at *
  generalize hN : nodesN g = n at *
  clear hB hL hN
  go_enter Try.func7, Try.ntmps7
  go_wp2_with (first
    | (go_at_call 25; refine HL.out.mono ?_; rintro e w1 ⟨rfl, hb⟩; have S1 := Lib.hid (HS.out.more hb); have c0 := cell_of_block S1.out.vg 0 _ rfl; have c1 := cell_of_block S1.out.vg 1 _ rfl; have c2 := cell_of_block S1.out.vg 2 _ rfl; clear hb)
    | (go_at_call 28; refine (HR.out _ S1.out.below).mono ?_; rintro e w2 ⟨rfl, hb⟩; have S2 := Lib.hid (S1.out.more hb); clear c0 c1 c2; have c0 := cell_of_block S2.out.vg 0 _ rfl; have c1 := cell_of_block S2.out.vg 1 _ rfl; have c2 := cell_of_block S2.out.vg 2 _ rfl; clear hb)
    | (go_at_call 32; refine (HA.out _ S2.out.below).mono ?_; rintro e w3 ⟨lv, rfl, hE, hb⟩; have E3 := Lib.hid hE; obtain ⟨la, lc, rfl⟩ := edgesAt_var hE; have S3 := Lib.hid (S2.out.more hb); clear c0 c1 c2 hE; have c0 := cell_of_block S3.out.vg 0 _ rfl; have c1 := cell_of_block S3.out.vg 1 _ rfl; have c2 := cell_of_block S3.out.vg 2 _ rfl; clear hb)
    | (go_at_call 34; refine (HBk.out _ S3.out.below).mono ?_; rintro e w4 ⟨bv, rfl, hG, hb⟩; obtain ⟨s5, a5, t5, p5, q5, r5, rfl, -⟩ := hG.var; have S5 := Lib.hid ((S3.out.more hb).more (balloc w4 (.cells #[.slice s5 B.S.length p5, .slice a5 B.A.length q5, .slice t5 B.T.length r5] 26))); have T5 := Lib.hid (KnSt.intro (S3.out.more hb).below hG); have E5 := Lib.hid ((E3.out.below hb).below (balloc w4 (.cells #[.slice s5 B.S.length p5, .slice a5 B.A.length q5, .slice t5 B.T.length r5] 26))); clear c0 c1 c2 hb hG))
  generalize hw5 : w4.alloc _ = w5 at *
  clear hw5
  go_loopg [3, 6] n (fun fu s c wr => ∃ i : Nat, i + fu = n ∧ c = .int .i64 i ∧ Below w5.heap.size w5 wr ∧ wr.ownsRow w5.heap.size 44 3 s (st g i) (edCells (span g 0 i)))
  case atStart => exact ⟨0, by omega, rfl, Below.refl _ _, by rw [HST.out]; exact ⟨rfl, .inl ⟨rfl, rfl⟩⟩⟩
  case round =>
    obtain ⟨i, hi, rfl, hb, ho⟩ := hrel
    have HO0 := Lib.hid ho
    have HB0 := Lib.hid hb
    have S6 := Lib.hid (S5.out.more hb)
    have c0 := cell_of_block S6.out.vg 0 _ rfl
    have c1 := cell_of_block S6.out.vg 1 _ rfl
    have c2 := cell_of_block S6.out.vg 2 _ rfl
    clear ho hb
    by_cases hlt : i < n
    · have i1 : (i : Int) < (n : Int) := by omega
      obtain ⟨hs1, -⟩ := HSP.out (i + 1) (by omega)
      have hst := HSTEP.out i hlt
      obtain ⟨p, hp⟩ : ∃ p, st g i = p := ⟨_, rfl⟩
      obtain ⟨m, hm⟩ : ∃ m, (eds g i).length = m := ⟨_, rfl⟩
      rw [hp, hm] at hst
      rw [hp] at HO0
      have HM := Lib.hid hm
      have HST1 := Lib.hid hst
      have hpm : p + m ≤ 1000000 := by omega
      have hnxt : span g 0 (i + 1) = span g 0 i ++ eds g i := by rw [span_succ, Nat.zero_add]
      have HNX := Lib.hid hnxt
      have hpb := PB.out i hlt
      have HPB := Lib.hid hpb
      clear hst hp hm hnxt hpb hs1
      go_wp2_with (first
        | (go_at_call 30; refine (HN.out _ S6.out.below).mono ?_; rintro e w6 ⟨rfl, hb⟩; have B6 := Lib.hid (HB0.out.trans (hb.mono HB0.out.size)); have O6 := Lib.hid (ownsRow_more HO0.out hb); have S7 := Lib.hid (S5.out.more B6.out); clear c0 c1 c2 hb; have c0 := cell_of_block S7.out.vg 0 _ rfl; have c1 := cell_of_block S7.out.vg 1 _ rfl; have c2 := cell_of_block S7.out.vg 2 _ rfl)
        | (go_at_call_of 26 sa; refine (HO.out i hlt _ S7.out.below).mono ?_; rintro e w7 ⟨ov, rfl, hE, hb⟩; have B7 := Lib.hid (B6.out.trans (hb.mono B6.out.size)); have O7 := Lib.hid (ownsRow_more O6.out hb); have E7 := Lib.hid hE; have hsz7 := B7.out.size; clear c0 c1 c2 hE hb)
        | (at_builtin; refine wpList_append_edges w7 rfl (.tmp 28) (.tmp 31) rfl w5.heap.size u3 p (edCells (span g 0 i)) rfl O7.out ov (eds g i) rfl E7.out (by rw [HM.out]; exact hpm) hsz7 ?_; intro v8 w8 hown hgr; have B8 := Lib.hid (B7.out.grown hgr hsz7 (fun k hk => (O7.out.lt k hk).1)); have O8 := Lib.hid (HM.out ▸ hown); clear hown hgr))
      have E8 := Lib.hid (E5.out.below B8.out)
      obtain ⟨la', lc', e, hle⟩ := E8.out
      cases e
      have HLE := Lib.hid hle
      have T8 := Lib.hid (T5.out.more B8.out)
      have d0 := cell_of_block T8.out.l1 0 _ rfl
      have d1 := cell_of_block T8.out.l1 1 _ rfl
      have d2 := cell_of_block T8.out.l1 2 _ rfl
      clear hle
      obtain ⟨gk', rfl⟩ : ∃ z : Nat, z = gk := ⟨_, rfl⟩
      obtain ⟨wr0, rfl⟩ : ∃ z : World, z = wr := ⟨_, rfl⟩
      go_loopg [7, 8] l.length (fun fu m c wr => ∃ k : Nat, k + fu = l.length ∧ c = .int .i64 k ∧ m = .int .i64 (((l.take k).countP (fun e => decide (e.2.2 = (i : Int))) : Nat)) ∧ w8 = wr)
      case atStart => exact ⟨0, by omega, rfl, by simp, rfl⟩
      case round =>
        obtain ⟨k, hk, rfl, rfl, rfl⟩ := hrel
        by_cases hlt2 : k < l.length
        · obtain ⟨b, off, rfl, y1, y2, y3⟩ := HLE.out k hlt2
          have hct := countTo_take l (i : Int) k hlt2
          have hcl : (l.take k).countP (fun e => decide (e.2.2 = (i : Int))) ≤ 1000000 := Nat.le_trans List.countP_le_length (by simp; omega)
          have j1 : (k : Int) < (l.length : Int) := by omega
          clear y1 y2
          generalize (l.getD k (0, 0, 0)).2.2 = z at *
          generalize (l.take k).countP (fun e => decide (e.2.2 = (i : Int))) = ct at *
          by_cases hz : z = (i : Int)
          · subst hz
            have HCT := Lib.hid (show (l.take (k + 1)).countP (fun e => decide (e.2.2 = (i : Int))) = ct + 1 by rw [hct, if_pos rfl])
            clear hct
            go_wp2_with fail
            go_roundg (gk - 1)
            case measure => omega
            case rel => exact ⟨k + 1, by omega, by simp, by rw [HCT.out]; simp, rfl⟩
          · have HCT := Lib.hid (show (l.take (k + 1)).countP (fun e => decide (e.2.2 = (i : Int))) = ct by rw [hct, if_neg hz, Nat.add_zero])
            clear hct
            go_wp2_with fail
            go_roundg (gk - 1)
            case measure => omega
            case rel => exact ⟨k + 1, by omega, by simp, by rw [HCT.out], rfl⟩
        · obtain rfl : gk = 0 := by omega
          obtain ⟨cc, hcc⟩ : ∃ cc, l.countP (fun e => decide (e.2.2 = (i : Int))) = cc := ⟨_, rfl⟩
          have htk : (l.take k).countP (fun e => decide (e.2.2 = (i : Int))) = cc := by rw [List.take_of_length_le (by omega), hcc]
          rw [htk]
          have HPC := Lib.hid (HPB.out.trans hcc)
          have nn := ne_false (cc : Int)
          clear hcc htk
          go_wp2_with (first
            | (go_at_call_of 26 s5; refine (HOB.out i hlt _ _ T8.out.g1).mono ?_; rintro e w9 ⟨ov2, rfl, hE, hb⟩; obtain ⟨xa, xc, hxe, -⟩ := hE; rw [HPC.out] at hxe; subst hxe; have B9 := Lib.hid (B8.out.trans (hb.mono B8.out.size)); have O9 := Lib.hid (ownsRow_more O8.out hb); clear hb))
          go_roundg (gk' - 1)
          case measure => omega
          case rel => exact ⟨i + 1, by omega, by simp, B9.out, by rw [HNX.out, edCells_append, HST1.out]; exact O9.out⟩
    · obtain rfl : gk = 0 := by omega
      obtain rfl : i = n := by omega
      have i1 : ¬ (i : Int) < (i : Int) := by omega
      have hsv : ∃ a cap, u3 = .slice a (st g i) cap := by
        rcases HO0.out.2 with ⟨e, h0⟩ | ⟨g', cap, cur, e, -⟩
        · exact ⟨none, 0, by rw [e, h0]⟩
        · exact ⟨_, cap, e⟩
      have hEv := ownsRow_edges (l := span g 0 i) (by rw [(HSP.out i (Nat.le_refl _)).2]; exact HO0.out)
      rw [← HALL.out] at hEv
      have EV := Lib.hid hEv
      obtain ⟨va, vc, rfl⟩ := hsv
      have hPA : (allL B).length = l.length := PA.out
      have HPA := Lib.hid hPA
      have nl := ne_false (l.length : Int)
      clear hEv hPA
      go_wp2_with (first
        | (go_at_call 30; refine (HN.out _ S6.out.below).mono ?_; rintro e w6 ⟨rfl, hb⟩; have B6 := Lib.hid (HB0.out.trans (hb.mono HB0.out.size)); have EV6 := Lib.hid (EV.out.below hb); clear c0 c1 c2 hb)
        | (go_at_call 24; refine (edges_same _ _ l _ EV6.out (E5.out.below B6.out) hal).mono ?_; rintro e w7 ⟨rfl, hb⟩; have T7 := Lib.hid (T5.out.more (B6.out.trans (hb.mono B6.out.size))); have d0 := cell_of_block T7.out.l1 0 _ rfl; have d1 := cell_of_block T7.out.l1 1 _ rfl; have d2 := cell_of_block T7.out.l1 2 _ rfl; clear hb)
        | (go_at_call 32; refine (all_any _ B _ T7.out.g1).mono ?_; rintro e w8 ⟨ov2, rfl, hE, hb⟩; obtain ⟨xa, xc, hxe, -⟩ := hE; rw [HPA.out] at hxe; subst hxe; have T8 := Lib.hid (T7.out.more hb); clear hb d0 d1 d2)
        | (go_at_call 20; refine (known14 _).mono ?_; rintro e w9 ⟨rfl, hb⟩; have T9 := Lib.hid (T8.out.more hb)))
      go_ret
      exact ⟨rfl, T9.out.below⟩
end Go.Proofs.Ytnlaonppgebpoaa
