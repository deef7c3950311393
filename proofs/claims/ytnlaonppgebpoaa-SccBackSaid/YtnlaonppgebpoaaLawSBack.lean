/-
  spinnakerlaw17.SccBack: the walk. (Written by gen_sback.py.)
-/
import Derived.Test.YtnlaonppgebpoaaLaw17
import Derived.Test.YtnlaonppgebpoaaOrderLaw
import Derived.Test.YtnlaonppgebpoaaAppend
import Derived.Test.YtnlaonppgebpoaaRBack
import Derived.Test.YtnlaonppgebpoaaRelTail
import Derived.Deep.AppendLies
namespace Go.Proofs.Ytnlaonppgebpoaa
open Go.RowKit

set_option maxRecDepth 100000 in
set_option maxHeartbeats 16000000 in
theorem sccBack (v : Value) (g : Gr) (w : World) (hG : GraphArg w v g) :
    Calls Try.prog 12 #[v] w fun e w' => e = .returned (.bool true) ∧ Below w.heap.size w w' := by
  obtain ⟨sa, aa, ta, sc, ac, tc, rfl⟩ := hG.var
  have hs := varst_start w #[.slice sa g.S.length sc, .slice aa g.A.length ac, .slice ta g.T.length tc]
  have HL := Lib.hid (hG.below hs.below).light
  have HS := Lib.hid hs
  cases hlit : lit3 g.S.length g.T.length g.A.length
  · rw [hlit] at HL
    clear hG hs hlit
    go_enter Try.func12, Try.ntmps12
    go_wp2_with (first
      | (go_at_call 25; refine HL.out.mono ?_; rintro e w1 ⟨rfl, hb⟩; have S1 := Lib.hid (HS.out.more hb))
      | (go_at_call 41; refine (known17 _).mono ?_; rintro e w5 ⟨rfl, hb⟩; have S5 := Lib.hid (S1.out.more hb)))
    go_ret
    exact ⟨rfl, S5.out.below⟩
  rw [hlit] at HL
  have hAt := hG.at hlit
  have HR := Lib.hid (fun w' (hw : Below w.heap.size w w') => rright_ok _ g w' (hAt.below hw))
  cases hr : rightB g
  · rw [hr] at HR
    clear hG hs hlit hAt
    go_enter Try.func12, Try.ntmps12
    go_wp2_with (first
      | (go_at_call 25; refine HL.out.mono ?_; rintro e w1 ⟨rfl, hb⟩; have S1 := Lib.hid (HS.out.more hb); have c0 := cell_of_block S1.out.vg 0 _ rfl; have c1 := cell_of_block S1.out.vg 1 _ rfl; have c2 := cell_of_block S1.out.vg 2 _ rfl)
      | (go_at_call 29; refine (HR.out _ S1.out.below).mono ?_; rintro e w2 ⟨rfl, hb2⟩; have S2 := Lib.hid (S1.out.more hb2))
      | (go_at_call 41; refine (known17 _).mono ?_; rintro e w5 ⟨rfl, hb5⟩; have S5 := Lib.hid (S2.out.more hb5)))
    go_ret
    exact ⟨rfl, S5.out.below⟩
  rw [hr] at HR
  have hR := (rightB_iff g).1 hr
  have hsz := (lit3_spec hlit).1
  have hn1 : nodesN g ≤ 100 := by rw [nodesN_right hR]; omega
  have hs5 : g.S.length ≤ 100000 := by omega
  have HAT := Lib.hid hAt
  have HP := Lib.hid (fun w' (hw : Below w.heap.size w w') => parts_back _ g w' (hAt.below hw) (by omega))
  have HN := Lib.hid (fun w' (hw : Below w.heap.size w w') => rnodes_ok _ g w' (hAt.below hw))
  have HA := Lib.hid (fun w' (hw : Below w.heap.size w w') => rall_ok _ g w' (hAt.below hw))
  have HBK := Lib.hid (fun w' (hw : Below w.heap.size w w') => rback_ok _ g w' (hAt.below hw))
  have HPB : Hid (∀ v' w', GraphAt w' v' (backG g) → Calls Try.prog 43 #[v'] w' (IntsBack w' (partsI g))) := Lib.hid (fun v' w' h => by
    have := parts_back v' (backG g) w' h (by rw [backG_nodes hR hs5]; omega)
    rw [back_parts hR hs5] at this; exact this)
  have HGR := Lib.hid (fun w' (hw : Below w.heap.size w w') => groupsF_ok _ g w' (hAt.below hw) (by omega))
  have HBD : Hid (∀ v' w' (f t : Nat), f < nodesN g → t < nodesN g → EdgesAt w' v' (addL g f t) → Calls Try.prog 22 #[.int .i64 (nodesN g : Nat), v'] w' (GraphErr w' (csr (nodesN g) (addL g f t)) (buildE (nodesN g : Nat) (addL g f t)))) := Lib.hid (fun v' w' f t hf ht h => by
    have := rbuild_any (nodesN g : Nat) v' (addL g f t) w' h (by have := hAt.sT; unfold addL; rw [List.length_append, allL_len hR]; simp; have := (lit3_spec hlit).2; omega)
    rw [buildG_ok (add_ok hR hs5 hf ht)] at this; exact this)
  have HPA : Hid (∀ v' w' (f t : Nat), f < nodesN g → t < nodesN g → SC g f t → GraphAt w' v' (csr (nodesN g) (addL g f t)) → Calls Try.prog 43 #[v'] w' (IntsBack w' (partsI g))) := Lib.hid (fun v' w' f t hf ht hs h => by
    have := parts_back v' _ w' h (by rw [csr_nodes (add_ok hR hs5 hf ht)]; omega)
    rw [add_parts hR hs5 hf ht hs] at this; exact this)
  have HCY : Hid (∀ (f t : Nat) (r : List Int), f < nodesN g → t < nodesN g → (f : Int) ∈ r → (t : Int) ∈ r → cycB (csr (nodesN g) (addL g f t)) r = true) := Lib.hid (fun f t r hf ht h1 h2 => add_cyc hR hs5 hf ht h1 h2)
  have PL := Lib.hid (partsI_len g)
  have GRW := Lib.hid (fun j (hj : j < (groupsI g).length) => groups_row hj)
  have GLN : Hid ((groupsI g).length ≤ 100 ∧ ∀ r ∈ groupsI g, r.length ≤ 100) := Lib.hid (by
    obtain ⟨h1, h2⟩ := grpI_len (partsI g) (fun _ => true)
    rw [partsI_len] at h1 h2
    exact ⟨Nat.le_trans h1 hn1, fun r hr => Nat.le_trans (h2 r hr) hn1⟩)
  have AL : Hid ((allL g).length ≤ 1000000) := Lib.hid (by rw [allL_len hR]; exact hAt.sT)
  clear hG hs hlit hAt hr hR hsz hs5
  obtain ⟨i0, hi0, hz0, hz1, hz2⟩ := info_parts Try.info44
  obtain ⟨n, hn⟩ : ∃ n, nodesN g = n := ⟨_, rfl⟩
  rw [hn] at hn1 HN PL HBD HPA HCY GRW
  clear hn
  go_enter Try.func12, Try.ntmps12
  go_wp2_with (first
    | (go_at_call 25; refine HL.out.mono ?_; rintro e w1 ⟨rfl, hb⟩; have S1 := Lib.hid (HS.out.more hb); have c0 := cell_of_block S1.out.vg 0 _ rfl; have c1 := cell_of_block S1.out.vg 1 _ rfl; have c2 := cell_of_block S1.out.vg 2 _ rfl; clear hb)
    | (go_at_call 29; refine (HR.out _ S1.out.below).mono ?_; rintro e w2 ⟨rfl, hb⟩; have S2 := Lib.hid (S1.out.more hb); clear c0 c1 c2; have c0 := cell_of_block S2.out.vg 0 _ rfl; have c1 := cell_of_block S2.out.vg 1 _ rfl; have c2 := cell_of_block S2.out.vg 2 _ rfl; clear hb)
    | (go_at_call_of 43 sa; refine (HP.out _ S2.out.below).mono ?_; rintro e w3 ⟨pv, rfl, hI, hb⟩; have I3 := Lib.hid hI; obtain ⟨pa, pc, rfl, -⟩ := hI; rw [PL.out]; have S3 := Lib.hid (S2.out.more hb); clear c0 c1 c2; have c0 := cell_of_block S3.out.vg 0 _ rfl; have c1 := cell_of_block S3.out.vg 1 _ rfl; have c2 := cell_of_block S3.out.vg 2 _ rfl; clear hb)
    | (go_at_call 35; refine (HBK.out _ S3.out.below).mono ?_; rintro e w4 ⟨bv, rfl, hG, hb⟩; have G4 := Lib.hid hG; have S4 := Lib.hid (S3.out.more hb); have I4 := Lib.hid (I3.out.below hb); clear c0 c1 c2; have c0 := cell_of_block S4.out.vg 0 _ rfl; have c1 := cell_of_block S4.out.vg 1 _ rfl; have c2 := cell_of_block S4.out.vg 2 _ rfl; clear hb hG)
    | (go_at_call_of 43 bv; refine (HPB.out _ _ G4.out).mono ?_; rintro e w5 ⟨qv, rfl, hI, hb⟩; have J5 := Lib.hid hI; have S5 := Lib.hid (S4.out.more hb); have I5 := Lib.hid (I4.out.below hb); clear c0 c1 c2; have c0 := cell_of_block S5.out.vg 0 _ rfl; have c1 := cell_of_block S5.out.vg 1 _ rfl; have c2 := cell_of_block S5.out.vg 2 _ rfl; clear hb hI)
    | (go_at_call_of 42 qv; refine (ints_same _ _ (partsI g) _ J5.out (by have := I5.out; rw [PL.out] at this; exact this) (by rw [PL.out]; omega)).mono ?_; rintro e w6 ⟨rfl, hb⟩; have S6 := Lib.hid (S5.out.more hb); have I6 := Lib.hid (I5.out.below hb); clear c0 c1 c2; have c0 := cell_of_block S6.out.vg 0 _ rfl; have c1 := cell_of_block S6.out.vg 1 _ rfl; have c2 := cell_of_block S6.out.vg 2 _ rfl; clear hb)
    | (go_at_call 46; refine (HGR.out _ S6.out.below).mono ?_; rintro e w7 ⟨gv, rfl, hR, hb⟩; have R7 := Lib.hid hR; obtain ⟨ga, gc, rfl, -⟩ := hR; have S7 := Lib.hid (S6.out.more hb); have I7 := Lib.hid (I6.out.below hb); clear c0 c1 c2; clear hb))
  obtain ⟨gl, hgl⟩ : ∃ z, (groupsI g).length = z := ⟨_, rfl⟩
  have hg1 := GLN.out.1
  rw [hgl] at hg1 GRW
  try rw [hgl]
  have R7' : Hid (∀ j, j < gl → ∃ b off u, ga = some ⟨b, off, none⟩ ∧ w7.cell? ⟨b, off + j, none⟩ = some u ∧ IntsAt w7 u ((groupsI g).getD j [])) := Lib.hid (by
    obtain ⟨ga', gc', e0, h⟩ := R7.out
    simp only [Value.slice.injEq, true_and] at e0
    obtain ⟨rfl, rfl⟩ := e0
    rw [hgl] at h
    exact h)
  have HRLN : Hid (∀ j, j < gl → ((groupsI g).getD j []).length ≤ 100) := Lib.hid (fun j hj => GLN.out.2 _ (by rw [List.getD_eq_getElem?_getD, List.getElem?_eq_getElem (by omega)]; simp))
  clear hgl
  generalize groupsI g = GG at *
  go_loopg [5] gl (fun fu c wr => ∃ k : Nat, k + fu = gl ∧ c = .int .i64 k ∧ Below w7.heap.size w7 wr)
  case atStart => exact ⟨0, by omega, rfl, Below.refl _ _⟩
  case round =>
    obtain ⟨k, hk, rfl, hb⟩ := hrel
    by_cases hlt : k < gl
    · obtain ⟨gb, go', u, rfl, x1, x2⟩ := R7'.out k hlt
      obtain ⟨g1, p, g2⟩ := GRW.out k hlt
      have hrl := HRLN.out k hlt
      have X2 := Lib.hid x2
      obtain ⟨row, hrow⟩ : ∃ z, GG.getD k [] = z := ⟨_, rfl⟩
      rw [hrow] at g1 g2 hrl X2 x2
      obtain ⟨ra, rc, rfl, x2⟩ := x2
      obtain ⟨rl, hrll⟩ : ∃ z, row.length = z := ⟨_, rfl⟩
      rw [hrll] at g1 hrl x2 x1
      have X2' : Hid (IntsAt w7 (.slice ra rl rc) row) := Lib.hid (by have := X2.out; rw [hrll] at this; exact this)
      obtain ⟨rb, ro, rfl, z1⟩ := x2 0 g1
      rw [Nat.add_zero] at z1
      obtain ⟨rb2, ro2, e2, z2⟩ := x2 (rl - 1) (by omega)
      simp only [Option.some.injEq, Addr.mk.injEq, and_true] at e2
      obtain ⟨rfl, rfl⟩ := e2
      have hm1 : row.getD 0 0 ∈ row := getD_mem (by omega)
      have hm2 : row.getD (rl - 1) 0 ∈ row := getD_mem (by omega)
      obtain ⟨fn, e1, hf, hp1⟩ := g2 _ hm1
      obtain ⟨t, e2, ht, hp2⟩ := g2 _ hm2
      rw [e1] at z1 hm1
      rw [e2] at z2 hm2
      have HSC : Hid (SC g fn t) := Lib.hid (partN_eq.1 (by rw [hp1, hp2]))
      have HC := Lib.hid (HCY.out fn t row hf ht hm1 hm2)
      have HF := Lib.hid hf
      have HT := Lib.hid ht
      have HWR : Hid (∀ x ∈ row, (Lit.int .i64 x).wf = true) := Lib.hid (fun x hx => by
        obtain ⟨a, rfl, ha, -⟩ := g2 x hx
        exact WalkArith.wf_i64 (by omega))
      have HRL : Hid (row.length ≤ 1000000) := Lib.hid (by omega)
      have i1 : (k : Int) < (gl : Int) := by omega
      have i2 : (0 : Int) < (rl : Int) := by omega
      have i3 : (rl : Int) - 1 < (rl : Int) := by omega
      have i4 : 0 ≤ (rl : Int) - 1 := by omega
      have i6 : 1 ≤ (rl : Int) := by omega
      have i5 : IntKind.i64.wrap ((rl : Int) - 1) = (rl : Int) - 1 := IntWalk.i64_in _ (by omega)
      have HY1 := Lib.hid x1
      have HZ1 := Lib.hid z1
      have HZ2 := Lib.hid z2
      have HBR := Lib.hid hb
      have S8 := Lib.hid (S7.out.more hb)
      have c0 := bkeep (balloc wr (.cells #[] 44)) (cell_of_block S8.out.vg 0 _ rfl)
      have c1 := bkeep (balloc wr (.cells #[] 44)) (cell_of_block S8.out.vg 1 _ rfl)
      have c2 := bkeep (balloc wr (.cells #[] 44)) (cell_of_block S8.out.vg 2 _ rfl)
      have S9 := Lib.hid (S8.out.more (balloc wr (.cells #[] 44)))
      have HW9 : Hid ((wr.alloc (.cells #[] 44)).ownsRow wr.heap.size 44 3 (.slice (some ⟨wr.heap.size, 0, none⟩) 0 0) 0 []) := Lib.hid ⟨rfl, .inr ⟨wr.heap.size, 0, #[], rfl, Nat.le_refl _, heap_alloc_new _ _, Nat.le_refl _, by unfold maxLen; omega, rfl, rfl⟩⟩
      have hal := AL.out
      have HAC := Lib.hid (HA.out _ S9.out.below)
      clear hb x1 x2 z1 z2 e1 e2 hf ht hm1 hm2 hp1 hp2 g2 hrow hrll X2
      go_wp2_with (first
        | (go_at_call 33; refine HAC.out.mono ?_; rintro e w10 ⟨lv, rfl, hE, hb⟩; have HE10 := Lib.hid hE; have S10 := Lib.hid (S9.out.more hb); have HB10 := Lib.hid ((balloc wr (.cells #[] 44)).trans (hb.mono (balloc wr (.cells #[] 44)).size)); have HO10 := Lib.hid (ownsRow_frm (F := fun _ => False) HW9.out (bfrm hb _) (fun _ _ => id)); clear c0 c1 c2; clear hb hE)
        | (at_builtin; refine wpList_append_edges w10 rfl (.tmp 34) (.tmp 36) rfl wr.heap.size (.slice (some ⟨wr.heap.size, 0, none⟩) 0 0) 0 [] rfl HO10.out lv (allL g) rfl HE10.out (by omega) HB10.out.size ?_; intro v11 w11 hown11 hgr11; rw [Nat.zero_add, List.nil_append] at hown11; have HO11 := Lib.hid hown11; have HB11 := Lib.hid (HB10.out.grown hgr11 HB10.out.size (fun k hk => by simp [Value.ownBlock] at hk; omega)); clear hown11 hgr11))
      have y0 := bkeep (HBR.out.trans (HB11.out.mono HBR.out.size)) HY1.out
      have y1 := bkeep (HBR.out.trans (HB11.out.mono HBR.out.size)) HZ1.out
      have y2 := bkeep (HBR.out.trans (HB11.out.mono HBR.out.size)) HZ2.out
      obtain ⟨al, hale⟩ : ∃ z, (allL g).length = z := ⟨_, rfl⟩
      have HALE := Lib.hid hale
      rw [hale] at hal
      have HO12 : Hid (w11.ownsRow wr.heap.size 44 3 v11 al (edCells (allL g))) := Lib.hid (by have := HO11.out; rw [hale] at this; exact this)
      clear hale
      go_wp2_with fail
      have M1 : Hid (al + 1 ≤ maxLen) := Lib.hid (by unfold maxLen; omega)
      have M2 : Hid ((al + 1) * 24 ≤ 140737488355328) := Lib.hid (by omega)
      have hb11 := HB11.out.size
      refine region_rel_tail 21 (fun q => match q with | 38 => u38 | 39 => u39 | 40 => u40 | 41 => u41 | 42 => u42 | 43 => u43 | 44 => u44 | 45 => u45 | 46 => u46 | 47 => u47 | 48 => u48 | 49 => u49 | 50 => u50 | 51 => u51 | 52 => u52 | 53 => u53 | 54 => u54 | 55 => u55 | 56 => u56 | 57 => u57 | 58 => u58 | _ => undef)
        (fun f => { tmps := #[(.agg #[.slice sa g.S.length sc, .slice aa g.A.length ac, .slice ta g.T.length tc]), .pointer (some ⟨w.heap.size, 0, none⟩), u2, .slice pa n pc, .slice (some ⟨gb, go', none⟩) gl gc, .int .i64 (k : Nat), v11, u7, u8, (.agg #[.slice sa g.S.length sc, .slice aa g.A.length ac, .slice ta g.T.length tc]), .bool true, .bool false, .bool false, (.agg #[.slice sa g.S.length sc, .slice aa g.A.length ac, .slice ta g.T.length tc]), .bool true, .bool false, .bool false, undef, (.agg #[.slice sa g.S.length sc, .slice aa g.A.length ac, .slice ta g.T.length tc]), .slice pa n pc, (.agg #[.slice sa g.S.length sc, .slice aa g.A.length ac, .slice ta g.T.length tc]), bv, qv, .slice pa n pc, .bool true, .bool false, (.agg #[.slice sa g.S.length sc, .slice aa g.A.length ac, .slice ta g.T.length tc]), .slice (some ⟨gb, go', none⟩) gl gc, .int .i64 (k : Nat), .slice (some ⟨gb, go', none⟩) gl gc, .int .i64 (gl : Nat), .bool true, u32, u33, .slice (some ⟨wr.heap.size, 0, none⟩) 0 0, (.agg #[.slice sa g.S.length sc, .slice aa g.A.length ac, .slice ta g.T.length tc]), lv, v11, f 38, f 39, f 40, f 41, f 42, f 43, f 44, f 45, f 46, f 47, f 48, f 49, f 50, f 51, f 52, f 53, f 54, f 55, f 56, f 57, f 58, u59, u60, u61, u62, u63, u64, u65, u66, u67, u68, u69, u70, u71, u72, u73, u74, u75, u76, u77, u78, u79, u80, undef], defers := [] }) (fun j => j + 38)
        (relL [.eq v11, .eq (.slice (some ⟨gb, go', none⟩) gl gc), .eq (.int .i64 (k : Nat)), .eq (.pointer (some ⟨gb, go' + k, none⟩)), .eq (.slice (some ⟨rb, ro, none⟩) rl rc), .eq (.pointer (some ⟨rb, ro, none⟩)), .eq (.int .i64 (fn : Nat)), .eq (.slice (some ⟨gb, go', none⟩) gl gc), .eq (.int .i64 (k : Nat)), .eq (.pointer (some ⟨gb, go' + k, none⟩)), .eq (.slice (some ⟨rb, ro, none⟩) rl rc), .eq (.slice (some ⟨gb, go', none⟩) gl gc), .eq (.int .i64 (k : Nat)), .eq (.pointer (some ⟨gb, go' + k, none⟩)), .eq (.slice (some ⟨rb, ro, none⟩) rl rc), .eq (.int .i64 (rl : Nat)), .eq (.int .i64 ((rl : Int) - 1)), .eq (.pointer (some ⟨rb, ro + (rl - 1), none⟩)), .eq (.int .i64 (t : Nat)), .eq (.agg #[.int .i64 (fn : Nat), .int .i64 0, .int .i64 (t : Nat)]), .edges [((fn : Int), 0, (t : Int))]])
        rfl (by kernel_rfl) (by kernel_rfl) (by kernel_rfl) (by decide) (by kernel_rfl) (fun i u w w' hb h => RK.mono _ hb h) (by kernel_rfl) (by kernel_rfl) ?_ ?_ ?_
      · intro j hj f v
        rcases j with _ | _ | _ | _ | _ | _ | _ | _ | _ | _ | _ | _ | _ | _ | _ | _ | _ | _ | _ | _ | _ | j
        all_goals first | rfl | omega | (simp at hj; omega)
      · refine ⟨?_, ?_, ?_, ?_, ?_, ?_, ?_, ?_, ?_, ?_, ?_, ?_, ?_, ?_, ?_, ?_, ?_, ?_, ?_, ?_, ?_, trivial⟩
        · intro f w' hb hd K hK
          dsimp only
          go_simp
          exact hK v11 w' (Below.refl _ _) rfl
        · intro f w' hb hd K hK
          dsimp only
          go_simp
          exact hK (.slice (some ⟨gb, go', none⟩) gl gc) w' (Below.refl _ _) rfl
        · intro f w' hb hd K hK
          dsimp only
          go_simp
          exact hK (.int .i64 (k : Nat)) w' (Below.refl _ _) rfl
        · intro f w' hb hd K hK
          have h0 : f 39 = (.slice (some ⟨gb, go', none⟩) gl gc) := hd 1 (by kernel_rfl)
          have h1 : f 40 = (.int .i64 (k : Nat)) := hd 2 (by kernel_rfl)
          dsimp only
          go_simp
          have q := hK (.pointer (some ⟨gb, go' + k, none⟩)) w' (Below.refl _ _) rfl
          simp only [h0, h1] at q
          exact q
        · intro f w' hb hd K hK
          have h0 : f 41 = (.pointer (some ⟨gb, go' + k, none⟩)) := hd 3 (by kernel_rfl)
          have y := bkeep hb y0
          dsimp only
          go_simp
          have q := hK (.slice (some ⟨rb, ro, none⟩) rl rc) w' (Below.refl _ _) rfl
          simp only [h0] at q
          exact q
        · intro f w' hb hd K hK
          have h0 : f 42 = (.slice (some ⟨rb, ro, none⟩) rl rc) := hd 4 (by kernel_rfl)
          dsimp only
          go_simp
          have q := hK (.pointer (some ⟨rb, ro, none⟩)) w' (Below.refl _ _) rfl
          simp only [h0] at q
          exact q
        · intro f w' hb hd K hK
          have h0 : f 43 = (.pointer (some ⟨rb, ro, none⟩)) := hd 5 (by kernel_rfl)
          have y := bkeep hb y1
          dsimp only
          go_simp
          have q := hK (.int .i64 (fn : Nat)) w' (Below.refl _ _) rfl
          simp only [h0] at q
          exact q
        · intro f w' hb hd K hK
          dsimp only
          go_simp
          exact hK (.slice (some ⟨gb, go', none⟩) gl gc) w' (Below.refl _ _) rfl
        · intro f w' hb hd K hK
          dsimp only
          go_simp
          exact hK (.int .i64 (k : Nat)) w' (Below.refl _ _) rfl
        · intro f w' hb hd K hK
          have h0 : f 45 = (.slice (some ⟨gb, go', none⟩) gl gc) := hd 7 (by kernel_rfl)
          have h1 : f 46 = (.int .i64 (k : Nat)) := hd 8 (by kernel_rfl)
          dsimp only
          go_simp
          have q := hK (.pointer (some ⟨gb, go' + k, none⟩)) w' (Below.refl _ _) rfl
          simp only [h0, h1] at q
          exact q
        · intro f w' hb hd K hK
          have h0 : f 47 = (.pointer (some ⟨gb, go' + k, none⟩)) := hd 9 (by kernel_rfl)
          have y := bkeep hb y0
          dsimp only
          go_simp
          have q := hK (.slice (some ⟨rb, ro, none⟩) rl rc) w' (Below.refl _ _) rfl
          simp only [h0] at q
          exact q
        · intro f w' hb hd K hK
          dsimp only
          go_simp
          exact hK (.slice (some ⟨gb, go', none⟩) gl gc) w' (Below.refl _ _) rfl
        · intro f w' hb hd K hK
          dsimp only
          go_simp
          exact hK (.int .i64 (k : Nat)) w' (Below.refl _ _) rfl
        · intro f w' hb hd K hK
          have h0 : f 49 = (.slice (some ⟨gb, go', none⟩) gl gc) := hd 11 (by kernel_rfl)
          have h1 : f 50 = (.int .i64 (k : Nat)) := hd 12 (by kernel_rfl)
          dsimp only
          go_simp
          have q := hK (.pointer (some ⟨gb, go' + k, none⟩)) w' (Below.refl _ _) rfl
          simp only [h0, h1] at q
          exact q
        · intro f w' hb hd K hK
          have h0 : f 51 = (.pointer (some ⟨gb, go' + k, none⟩)) := hd 13 (by kernel_rfl)
          have y := bkeep hb y0
          dsimp only
          go_simp
          have q := hK (.slice (some ⟨rb, ro, none⟩) rl rc) w' (Below.refl _ _) rfl
          simp only [h0] at q
          exact q
        · intro f w' hb hd K hK
          have h0 : f 52 = (.slice (some ⟨rb, ro, none⟩) rl rc) := hd 14 (by kernel_rfl)
          dsimp only
          go_simp
          have q := hK (.int .i64 (rl : Nat)) w' (Below.refl _ _) rfl
          simp only [h0] at q
          exact q
        · intro f w' hb hd K hK
          have h0 : f 53 = (.int .i64 (rl : Nat)) := hd 15 (by kernel_rfl)
          dsimp only
          go_simp
          (try (rw [i5]))
          have q := hK (.int .i64 ((rl : Int) - 1)) w' (Below.refl _ _) rfl
          simp only [h0] at q
          exact q
        · intro f w' hb hd K hK
          have h0 : f 48 = (.slice (some ⟨rb, ro, none⟩) rl rc) := hd 10 (by kernel_rfl)
          have h1 : f 54 = (.int .i64 ((rl : Int) - 1)) := hd 16 (by kernel_rfl)
          dsimp only
          go_simp
          have q := hK (.pointer (some ⟨rb, ro + (rl - 1), none⟩)) w' (Below.refl _ _) rfl
          simp only [h0, h1] at q
          exact q
        · intro f w' hb hd K hK
          have h0 : f 55 = (.pointer (some ⟨rb, ro + (rl - 1), none⟩)) := hd 17 (by kernel_rfl)
          have y := bkeep hb y2
          dsimp only
          go_simp
          have q := hK (.int .i64 (t : Nat)) w' (Below.refl _ _) rfl
          simp only [h0] at q
          exact q
        · intro f w' hb hd K hK
          have h0 : f 44 = (.int .i64 (fn : Nat)) := hd 6 (by kernel_rfl)
          have h1 : f 56 = (.int .i64 (t : Nat)) := hd 18 (by kernel_rfl)
          dsimp only
          go_simp
          have q := hK (.agg #[.int .i64 (fn : Nat), .int .i64 0, .int .i64 (t : Nat)]) w' (Below.refl _ _) rfl
          simp only [h0, h1] at q
          exact q
        · intro f w' hb hd K hK
          have h0 : f 57 = (.agg #[.int .i64 (fn : Nat), .int .i64 0, .int .i64 (t : Nat)]) := hd 19 (by kernel_rfl)
          dsimp only
          go_simp
          have q := hK _ _ (balloc w' (.cells #[.int .i64 (fn : Nat), .int .i64 0, .int .i64 (t : Nat)] 44)) (edgesAt_block (l := [((fn : Int), 0, (t : Int))]) (heap_alloc_new w' _) rfl 1)
          simp only [h0] at q
          exact q
      · intro f w' hb hr
        have h38 : f 38 = v11 := hr 0 (by decide)
        have hE58 : EdgesAt w' (f 58) [((fn : Int), 0, (t : Int))] := hr 20 (by decide)
        obtain ⟨ea, ec, e58, hE58⟩ := hE58
        obtain ⟨eb, eo, rfl, q1, q2, q3⟩ := hE58 0 (by simp)
        have hb' : Below w11.heap.size w11 w' := ⟨hb.os, hb.tape, hb.output, hb.size, hb.block⟩
        have HO13 := Lib.hid (ownsRow_frm (F := fun _ => False) HO12.out (bfrm hb' _) (fun _ _ => id))
        have HB13 := Lib.hid (HB11.out.trans (hb'.mono HB11.out.size))
        have hs13 := HB13.out.size
        have HN13 : Hid (∀ j u, ([.int .i64 (fn : Nat), .int .i64 0, .int .i64 (t : Nat)] : List Value)[j]? = some u → w'.cell? ((⟨eb, eo, none⟩ : Addr).add j) = some u) := Lib.hid (fun j u hu => edges_src (l := [((fn : Int), 0, (t : Int))]) (fun k hk => by obtain ⟨b', off', e, c1, c2, c3⟩ := hE58 k hk; cases e; exact ⟨c1, c2, c3⟩) j u hu)
        clear hr hb hb' hE58 q1 q2 q3 y0 y1 y2
        (try (dsimp only))
        rw [h38, e58]
        clear h38 e58
        generalize f 39 = x39
        generalize f 40 = x40
        generalize f 41 = x41
        generalize f 42 = x42
        generalize f 43 = x43
        generalize f 44 = x44
        generalize f 45 = x45
        generalize f 46 = x46
        generalize f 47 = x47
        generalize f 48 = x48
        generalize f 49 = x49
        generalize f 50 = x50
        generalize f 51 = x51
        generalize f 52 = x52
        generalize f 53 = x53
        generalize f 54 = x54
        generalize f 55 = x55
        generalize f 56 = x56
        generalize f 57 = x57
        simp only [List.drop_succ_cons, List.drop_zero]
        go_wp2_with (first
          | (at_builtin; refine wpList_append_lies w' rfl (.tmp 38) (.tmp 58) 22 rfl wr.heap.size 44 i0 (.agg #[.int .i64 0, .int .i64 0, .int .i64 0]) 3 24 Try.underlying22 hi0 hz0 hz1 hz2 rfl (by decide) v11 al (edCells (allL g)) rfl HO13.out ⟨eb, eo, none⟩ 1 ec [.int .i64 (fn : Nat), .int .i64 0, .int .i64 (t : Nat)] rfl rfl HN13.out (by simp [Value.oneCell']) (by omega) (by unfold maxLen; omega) (by omega) hs13 w'.heap.size rfl ?_; intro g3 cap3 w12 hown3 hgr3 hor3 hlt3; have HO14 := Lib.hid hown3; have HB14 := Lib.hid (HB13.out.grown hgr3 hs13 (fun q hq => (HO13.out.lt q hq).1)); have S14 := Lib.hid (S8.out.more HB14.out); have c0 := cell_of_block S14.out.vg 0 _ rfl; have c1 := cell_of_block S14.out.vg 1 _ rfl; have c2 := cell_of_block S14.out.vg 2 _ rfl; clear hown3 hgr3 hor3 hlt3)
          | (go_at_call 31; refine (HN.out _ S14.out.below).mono ?_; rintro e w13 ⟨rfl, hb⟩; have S15 := Lib.hid (S14.out.more hb); have HB15 := Lib.hid (HB14.out.trans (hb.mono HB14.out.size)); have HE15 : Hid (EdgesAt w13 (.slice (some ⟨g3, 0, none⟩) (al + 1) cap3) (addL g fn t)) := Lib.hid ((ownsRow_edges (base := wr.heap.size) (by rw [addL, List.length_append, HALE.out, edCells_append]; exact HO14.out)).below hb); clear hb)
          | (go_at_call 22; refine (HBD.out _ _ fn t HF.out HT.out HE15.out).mono ?_; rintro e w16 ⟨hv, rfl, hG, hb⟩; obtain ⟨s9, a9, t9, p9, q9, r9, rfl, -⟩ := hG.var; have K17 := Lib.hid (KnSt.intro (HB15.out.trans (hb.mono HB15.out.size)) hG); have S17 := Lib.hid ((S15.out.more hb).more (balloc w16 (.cells #[.slice s9 (csr n (addL g fn t)).S.length p9, .slice a9 (csr n (addL g fn t)).A.length q9, .slice t9 (csr n (addL g fn t)).T.length r9] 26))); clear c0 c1 c2 hb hG))
        have HPH : Hid (∀ v' w', GraphAt w' v' (csr n (addL g fn t)) → Calls Try.prog 43 #[v'] w' (IntsBack w' (partsI g))) := Lib.hid (fun v' w' h => HPA.out v' w' fn t HF.out HT.out HSC.out h)
        have K17c0 := cell_of_block K17.out.l1 0 _ rfl
        have K17c1 := cell_of_block K17.out.l1 1 _ rfl
        have K17c2 := cell_of_block K17.out.l1 2 _ rfl
        generalize csr n (addL g fn t) = H at *
        generalize buildE (n : Nat) (addL g fn t) = EE at *
        obtain ⟨W17, hW17⟩ : ∃ z : World, w16.alloc (.cells #[.slice s9 H.S.length p9, .slice a9 H.A.length q9, .slice t9 H.T.length r9] 26) = z := ⟨_, rfl⟩
        rw [hW17] at K17 S17 K17c0 K17c1 K17c2
        (try (rw [hW17]))
        clear hW17
        have HB17 := Lib.hid (HBR.out.trans (K17.out.below.mono HBR.out.size))
        have IP17 : Hid (IntsAt W17 (.slice pa n pc) (partsI g)) := Lib.hid (by have := I7.out; rw [PL.out] at this; exact this.below HB17.out)
        have X17 := Lib.hid (X2'.out.below HB17.out)
        have y17 := bkeep HB17.out HY1.out
        have c0 := K17c0
        have c1 := K17c1
        have c2 := K17c2
        have HPLn : Hid ((partsI g).length ≤ 1000000) := Lib.hid (by rw [PL.out]; omega)
        clear K17c0 K17c1 K17c2
        refine region_rel (fun q => match q with | 67 => u67 | 68 => u68 | 69 => u69 | 70 => u70 | 71 => u71 | 72 => u72 | 73 => u73 | 74 => u74 | 75 => u75 | 76 => u76 | 77 => u77 | 78 => u78 | 79 => u79 | 80 => u80 | _ => undef)
          (fun f => { tmps := #[(.agg #[.slice sa g.S.length sc, .slice aa g.A.length ac, .slice ta g.T.length tc]), .pointer (some ⟨w.heap.size, 0, none⟩), u2, .slice pa n pc, .slice (some ⟨gb, go', none⟩) gl gc, .int .i64 (k : Nat), .slice (some ⟨g3, 0, none⟩) (al + 1) cap3, .pointer (some ⟨w16.heap.size, 0, none⟩), .int .i64 EE, (.agg #[.slice sa g.S.length sc, .slice aa g.A.length ac, .slice ta g.T.length tc]), .bool true, .bool false, .bool false, (.agg #[.slice sa g.S.length sc, .slice aa g.A.length ac, .slice ta g.T.length tc]), .bool true, .bool false, .bool false, undef, (.agg #[.slice sa g.S.length sc, .slice aa g.A.length ac, .slice ta g.T.length tc]), .slice pa n pc, (.agg #[.slice sa g.S.length sc, .slice aa g.A.length ac, .slice ta g.T.length tc]), bv, qv, .slice pa n pc, .bool true, .bool false, (.agg #[.slice sa g.S.length sc, .slice aa g.A.length ac, .slice ta g.T.length tc]), .slice (some ⟨gb, go', none⟩) gl gc, .int .i64 (k : Nat), .slice (some ⟨gb, go', none⟩) gl gc, .int .i64 (gl : Nat), .bool true, u32, u33, .slice (some ⟨wr.heap.size, 0, none⟩) 0 0, (.agg #[.slice sa g.S.length sc, .slice aa g.A.length ac, .slice ta g.T.length tc]), lv, v11, v11, x39, x40, x41, x42, x43, x44, x45, x46, x47, x48, x49, x50, x51, x52, x53, x54, x55, x56, x57, .slice (some ⟨eb, eo, none⟩) 1 ec, .slice (some ⟨g3, 0, none⟩) (al + 1) cap3, (.tuple #[(.agg #[.slice s9 H.S.length p9, .slice a9 H.A.length q9, .slice t9 H.T.length r9]), .int .i64 EE]), (.agg #[.slice sa g.S.length sc, .slice aa g.A.length ac, .slice ta g.T.length tc]), .int .i64 (n : Nat), .slice (some ⟨g3, 0, none⟩) (al + 1) cap3, (.tuple #[(.agg #[.slice s9 H.S.length p9, .slice a9 H.A.length q9, .slice t9 H.T.length r9]), .int .i64 EE]), (.agg #[.slice s9 H.S.length p9, .slice a9 H.A.length q9, .slice t9 H.T.length r9]), .int .i64 EE, f 67, f 68, f 69, f 70, f 71, f 72, f 73, f 74, f 75, f 76, f 77, f 78, f 79, f 80, undef], defers := [] }) (fun j => j + 67)
          (relL3 [.eq (.agg #[.slice s9 H.S.length p9, .slice a9 H.A.length q9, .slice t9 H.T.length r9]), .ints (partsI g), .eq (.slice pa n pc), .eq (.bool true), .eq (.bool false), .eq (.bool false), .eq (.agg #[.slice s9 H.S.length p9, .slice a9 H.A.length q9, .slice t9 H.T.length r9]), .eq (.slice (some ⟨gb, go', none⟩) gl gc), .eq (.int .i64 (k : Nat)), .eq (.pointer (some ⟨gb, go' + k, none⟩)), .eq (.slice (some ⟨rb, ro, none⟩) rl rc), .eq (.bool true), .eq (.bool false), .eq (.bool false)])
          rfl (by kernel_rfl) (fun i u w w' hb h => RK3.mono _ hb h) (by kernel_rfl) (by kernel_rfl) ?_ ?_ ?_
        · intro j hj f v
          rcases j with _ | _ | _ | _ | _ | _ | _ | _ | _ | _ | _ | _ | _ | _ | j
          all_goals first | rfl | (simp at hj; omega)
        · refine ⟨?_, ?_, ?_, ?_, ?_, ?_, ?_, ?_, ?_, ?_, ?_, ?_, ?_, ?_, trivial⟩
          · intro f w' hb hd K hK
            have e0 := bkeep hb c0
            have e1 := bkeep hb c1
            have e2 := bkeep hb c2
            dsimp only
            go_simp
            exact hK (.agg #[.slice s9 H.S.length p9, .slice a9 H.A.length q9, .slice t9 H.T.length r9]) w' (Below.refl _ _) rfl
          · intro f w' hb hd K hK
            have h0 : f 67 = (.agg #[.slice s9 H.S.length p9, .slice a9 H.A.length q9, .slice t9 H.T.length r9]) := hd 0 (by kernel_rfl)
            have HO := Lib.hid (HPH.out _ w' (K17.out.more (show Below W17.heap.size W17 w' from ⟨hb.os, hb.tape, hb.output, hb.size, hb.block⟩)).g1)
            dsimp only
            go_simp
            go_wp2_with (go_at_call 43; refine HO.out.mono ?_; rintro e w2 ⟨lv, rfl, hE, hb2⟩)
            have q := hK lv w2 hb2 hE
            simp only [h0] at q
            exact q
          · intro f w' hb hd K hK
            dsimp only
            go_simp
            exact hK (.slice pa n pc) w' (Below.refl _ _) rfl
          · intro f w' hb hd K hK
            have h0 : IntsAt w' (f 68) (partsI g) := hd 1 (by kernel_rfl)
            have h1 : f 69 = (.slice pa n pc) := hd 2 (by kernel_rfl)
            have HO := Lib.hid (ints_same _ _ (partsI g) w' h0 (IP17.out.below (show Below W17.heap.size W17 w' from ⟨hb.os, hb.tape, hb.output, hb.size, hb.block⟩)) HPLn.out)
            clear h0
            dsimp only
            go_simp
            go_wp2_with (go_at_call 42; refine HO.out.mono ?_; rintro e w2 ⟨rfl, hb2⟩)
            have q := hK (.bool true) w2 hb2 rfl
            simp only [h1] at q
            exact q
          · intro f w' hb hd K hK
            have h0 : f 70 = (.bool true) := hd 3 (by kernel_rfl)
            dsimp only
            go_simp
            have q := hK (.bool false) w' (Below.refl _ _) rfl
            simp only [h0] at q
            exact q
          · intro f w' hb hd K hK
            have h0 : f 71 = (.bool false) := hd 4 (by kernel_rfl)
            dsimp only
            go_simp
            have q := hK (.bool false) w' (Below.refl _ _) rfl
            simp only [h0] at q
            exact q
          · intro f w' hb hd K hK
            have hg : f 72 = .bool false := hd 5 (by kernel_rfl)
            have e0 := bkeep hb c0
            have e1 := bkeep hb c1
            have e2 := bkeep hb c2
            dsimp only
            go_simp
            have q := hK (.agg #[.slice s9 H.S.length p9, .slice a9 H.A.length q9, .slice t9 H.T.length r9]) w' (Below.refl _ _) rfl
            simp only [hg] at q
            exact q
          · intro f w' hb hd K hK
            have hg : f 72 = .bool false := hd 5 (by kernel_rfl)
            dsimp only
            go_simp
            have q := hK (.slice (some ⟨gb, go', none⟩) gl gc) w' (Below.refl _ _) rfl
            simp only [hg] at q
            exact q
          · intro f w' hb hd K hK
            have hg : f 72 = .bool false := hd 5 (by kernel_rfl)
            dsimp only
            go_simp
            have q := hK (.int .i64 (k : Nat)) w' (Below.refl _ _) rfl
            simp only [hg] at q
            exact q
          · intro f w' hb hd K hK
            have hg : f 72 = .bool false := hd 5 (by kernel_rfl)
            have h0 : f 74 = (.slice (some ⟨gb, go', none⟩) gl gc) := hd 7 (by kernel_rfl)
            have h1 : f 75 = (.int .i64 (k : Nat)) := hd 8 (by kernel_rfl)
            dsimp only
            go_simp
            have q := hK (.pointer (some ⟨gb, go' + k, none⟩)) w' (Below.refl _ _) rfl
            simp only [hg, h0, h1] at q
            exact q
          · intro f w' hb hd K hK
            have hg : f 72 = .bool false := hd 5 (by kernel_rfl)
            have h0 : f 76 = (.pointer (some ⟨gb, go' + k, none⟩)) := hd 9 (by kernel_rfl)
            have y := bkeep hb y17
            dsimp only
            go_simp
            have q := hK (.slice (some ⟨rb, ro, none⟩) rl rc) w' (Below.refl _ _) rfl
            simp only [hg, h0] at q
            exact q
          · intro f w' hb hd K hK
            have hg : f 72 = .bool false := hd 5 (by kernel_rfl)
            have h0 : f 73 = (.agg #[.slice s9 H.S.length p9, .slice a9 H.A.length q9, .slice t9 H.T.length r9]) := hd 6 (by kernel_rfl)
            have h1 : f 77 = (.slice (some ⟨rb, ro, none⟩) rl rc) := hd 10 (by kernel_rfl)
            have HO := Lib.hid ((HC.out ▸ cyc_ok _ _ H row w' (K17.out.more (show Below W17.heap.size W17 w' from ⟨hb.os, hb.tape, hb.output, hb.size, hb.block⟩)).g1 (X17.out.below (show Below W17.heap.size W17 w' from ⟨hb.os, hb.tape, hb.output, hb.size, hb.block⟩)) HWR.out HRL.out : Calls Try.prog 50 #[(.agg #[.slice s9 H.S.length p9, .slice a9 H.A.length q9, .slice t9 H.T.length r9]), (.slice (some ⟨rb, ro, none⟩) rl rc)] w' fun e w'' => e = .returned (.bool true) ∧ Below w'.heap.size w' w''))
            dsimp only
            go_simp
            go_wp2_with (go_at_call 50; refine HO.out.mono ?_; rintro e w2 ⟨rfl, hb2⟩)
            have q := hK (.bool true) w2 hb2 rfl
            simp only [hg, h0, h1] at q
            exact q
          · intro f w' hb hd K hK
            have hg : f 72 = .bool false := hd 5 (by kernel_rfl)
            have h0 : f 78 = (.bool true) := hd 11 (by kernel_rfl)
            dsimp only
            go_simp
            have q := hK (.bool false) w' (Below.refl _ _) rfl
            simp only [hg, h0] at q
            exact q
          · intro f w' hb hd K hK
            have h0 : f 72 = (.bool false) := hd 5 (by kernel_rfl)
            have h1 : f 79 = (.bool false) := hd 12 (by kernel_rfl)
            dsimp only
            go_simp
            have q := hK (.bool false) w' (Below.refl _ _) rfl
            simp only [h0, h1] at q
            exact q
        · intro f w' hb hr
          have h80 : f 80 = .bool false := hr 13 (by decide)
          have HB18 := Lib.hid (HB17.out.trans ((show Below W17.heap.size W17 w' from ⟨hb.os, hb.tape, hb.output, hb.size, hb.block⟩).mono HB17.out.size))
          clear hr hb
          (try (dsimp only))
          rw [h80]
          clear h80
          generalize f 67 = z67
          generalize f 68 = z68
          generalize f 69 = z69
          generalize f 70 = z70
          generalize f 71 = z71
          generalize f 72 = z72
          generalize f 73 = z73
          generalize f 74 = z74
          generalize f 75 = z75
          generalize f 76 = z76
          generalize f 77 = z77
          generalize f 78 = z78
          generalize f 79 = z79
          clear c0 c1 c2 y17
          go_wp2_with fail
          go_roundg (gl - (k + 1))
          case measure => omega
          case rel => exact ⟨k + 1, by omega, by simp, HB18.out⟩
    · obtain rfl : k = gl := by omega
      have S20 := Lib.hid (S7.out.more hb)
      go_wp2_with (go_at_call 41; refine (known17 _).mono ?_; rintro e w21 ⟨rfl, hb21⟩; have S21 := Lib.hid (S20.out.more hb21); clear hb21)
      go_ret
      exact ⟨rfl, S21.out.below⟩
end Go.Proofs.Ytnlaonppgebpoaa
