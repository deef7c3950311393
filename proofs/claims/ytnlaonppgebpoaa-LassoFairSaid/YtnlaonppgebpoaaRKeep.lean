/-
  The reference's Keep.
-/
import Derived.Test.YtnlaonppgebpoaaRBack
import Derived.Test.YtnlaonppgebpoaaKeep2
namespace Go.Proofs.Ytnlaonppgebpoaa
open Go.RowKit

theorem tellL_take (f : Ed → Ed × Bool) (l : List Ed) (k : Nat) (hk : k < l.length) : tellL f (l.take (k + 1)) = tellL f (l.take k) ++ if (f (l.getD k (0, 0, 0))).2 = true then [(f (l.getD k (0, 0, 0))).1] else [] := by
  rw [List.take_add_one, List.getElem?_eq_getElem hk, Option.toList_some, tellL_append, tellL_one]
  simp [List.getD, hk]

set_option maxRecDepth 100000 in
set_option maxHeartbeats 4000000 in
theorem rkeep_not (v u : Value) (g : Gr) (il : List Bool) (w : World) (h : GraphAt w v g) (hR : rightB g = false) : Calls Try.prog 37 #[v, u] w (GraphBack w (keepG g il)) := by
  unfold keepG
  rw [madeG_not hR]
  obtain ⟨sa, aa, ta, sc, ac, tc, rfl, -⟩ := h.var
  have hs := bkst_start w #[.slice sa g.S.length sc, .slice aa g.A.length ac, .slice ta g.T.length tc]
  have HN := Lib.hid (rright_ok _ g _ (h.below hs.below))
  rw [hR] at HN
  have HS := Lib.hid hs
  clear h hR hs
  go_enter Try.func37, Try.ntmps37
  go_wp2_with (first
    | (go_at_call 29; refine HN.out.mono ?_; rintro e w1 ⟨rfl, hb1⟩; have hs1 := HS.out.more hb1; have r0 := cell_of_block hs1.vr 0 _ rfl; have r1 := cell_of_block hs1.vr 1 _ rfl; have r2 := cell_of_block hs1.vr 2 _ rfl; have g0 := free_of_block hs1.vr 0; have g1 := free_of_block hs1.vr 1; have g2 := free_of_block hs1.vr 2; have HS1 := Lib.hid hs1; clear hb1 hs1))
  obtain ⟨q1, q2, q3, q4, q5⟩ := HS1.out.ret (graphAt_nil _)
  refine bodyPost_ret (v := .agg #[.slice none 0 0, .slice none 0 0, .slice none 0 0]) (by simp [results, Try.results37, go_sem, q1, q2, q3]) rfl ?_
  exact ⟨_, rfl, q4, q5⟩

set_option maxRecDepth 100000 in
set_option maxHeartbeats 8000000 in
theorem rkeep_right (v u : Value) (g : Gr) (il : List Bool) (w : World) (h : GraphAt w v g) (hu : BoolsAt w u il) (hR : Rt g) (hil : il.length ≤ 9223372036854775807) : Calls Try.prog 37 #[v, u] w (GraphBack w (keepG g il)) := by
  unfold keepG
  rw [madeG_right hR]
  obtain ⟨sa, aa, ta, sc, ac, tc, rfl, -⟩ := h.var
  obtain ⟨i0, hi0, hz0, hz1, hz2⟩ := info_parts Try.info44
  have hs := bkst_start w #[.slice sa g.S.length sc, .slice aa g.A.length ac, .slice ta g.T.length tc]
  have HN := Lib.hid (rright_ok _ g _ (h.below hs.below))
  have HA := Lib.hid (fun w' (hw : Below w.heap.size w w') => rall_own _ g w' (h.below hw))
  have HNN := Lib.hid (fun w' (hw : Below w.heap.size w w') => rnodes_ok _ g w' (h.below hw))
  have RI := Lib.hid (fun w' (hw : Below w.heap.size w w') i hi => ris_ok il i hi u w' (hu.below hw) hil)
  rw [(rightB_iff g).2 hR] at HN
  have hll : (allL g).length ≤ 1000000 := by rw [allL_len hR]; exact h.sT
  have hpos := Lib.hid (fun k (hk : k < (allL g).length) => show 0 ≤ ((allL g).getD k (0, 0, 0)).1 ∧ 0 ≤ ((allL g).getD k (0, 0, 0)).2.2 from by
    have e : (allL g).getD k (0, 0, 0) = (allL g)[k] := by simp [List.getD, hk]
    have := allL_mem hR (List.getElem_mem hk)
    rw [e]; omega)
  have HS := Lib.hid hs
  clear h hR hs hu hil
  generalize allL g = l at *
  generalize nodesN g = nn at *
  obtain ⟨n, hn⟩ : ∃ n, l.length = n := ⟨_, rfl⟩
  have HLN := Lib.hid hn
  clear hn
  go_enter Try.func37, Try.ntmps37
  go_wp2_with (first
    | (go_at_call 29; refine HN.out.mono ?_; rintro e w1 ⟨rfl, hb1⟩; have hs1 := HS.out.more hb1; have a0 := cell_of_block hs1.vg 0 _ rfl; have a1 := cell_of_block hs1.vg 1 _ rfl; have a2 := cell_of_block hs1.vg 2 _ rfl; have HS1 := Lib.hid hs1; have hy1 := hs1.size; clear hb1 hs1)
    | (go_at_call 33; refine (HA.out _ HS1.out.below).mono ?_; rintro e w2 ⟨lv, rfl, ho, hb2⟩; have HS2 := Lib.hid (HS1.out.more hb2); have hy2 := hb2.size; obtain ⟨la, lc, rfl, hl⟩ := ownsRow_edges ho; have HL := Lib.hid hl; clear ho hl hb2 a0 a1 a2))
  have hn := HLN.out
  rw [hn] at hll
  rw [hn]
  clear hn
  go_loopg [6, 7] n (fun fu s c wr => ∃ k m : Nat, k + fu = n ∧ c = .int .i64 k ∧ m ≤ k ∧ Hid ((tellL (keepE il) (l.take k)).length = m) ∧ BkSt w wr #[.slice sa g.S.length sc, .slice aa g.A.length ac, .slice ta g.T.length tc] ∧ Below w2.heap.size w2 wr ∧ wr.ownsRow w2.heap.size 44 3 s m (edCells (tellL (keepE il) (l.take k))))
  case atStart => exact ⟨0, 0, by omega, rfl, by omega, Lib.hid (by simp [tellL]), HS2.out, Below.refl _ _, ⟨by simp [tellL, edCells], .inl ⟨rfl, rfl⟩⟩⟩
  case round =>
    clear HS2
    obtain ⟨k, m, hk, rfl, hmk, HM, hS, hb, ho⟩ := hrel
    by_cases hlt : k < n
    · obtain ⟨b, off, rfl, d1, d2, d3⟩ := HL.out k (by have := HLN.out; omega)
      have y1 := bkeep hb d1
      have y2 := bkeep hb d2
      have y3 := bkeep hb d3
      obtain ⟨p1, p2⟩ := hpos.out k (by have := HLN.out; omega)
      have htake := tellL_take (keepE il) l k (by have := HLN.out; omega)
      have b1 : (k : Int) < (n : Int) := by omega
      clear d1 d2 d3
      generalize l.getD k (0, 0, 0) = e at *
      obtain ⟨x, y, z⟩ := e
      have R1 := Lib.hid (RI.out wr hS.below x p1)
      have R2 := Lib.hid (RI.out wr hS.below z p2)
      have HS := Lib.hid hS
      have HB := Lib.hid hb
      have HO := Lib.hid ho
      have hsz := hb.size
      have htake2 : tellL (keepE il) (l.take (k + 1)) = tellL (keepE il) (l.take k) ++ if (inB il x && inB il z) = true then [(x, y, z)] else [] := htake
      clear hS hb ho htake p1 p2
      generalize inB il x = bx at *
      generalize inB il z = bz at *
      cases bx
      · have HT := Lib.hid (show tellL (keepE il) (l.take (k + 1)) = tellL (keepE il) (l.take k) by rw [htake2]; simp)
        clear htake2
        go_wp2_with (first
          | (go_at_call_of 80 (Value.int .i64 x); refine R1.out.mono ?_; rintro e w' ⟨rfl, rfl⟩)
          | (go_at_call_of 80 (Value.int .i64 z); refine R2.out.mono ?_; rintro e w' ⟨rfl, rfl⟩))
        go_roundg (gk - 1)
        case measure => omega
        case rel => exact ⟨k + 1, m, by omega, by simp, by omega, Lib.hid (by rw [HT.out]; exact HM.out), HS.out, HB.out, by rw [HT.out]; exact HO.out⟩
      · cases bz
        · have HT := Lib.hid (show tellL (keepE il) (l.take (k + 1)) = tellL (keepE il) (l.take k) by rw [htake2]; simp)
          clear htake2
          go_wp2_with (first
            | (go_at_call_of 80 (Value.int .i64 x); refine R1.out.mono ?_; rintro e w' ⟨rfl, rfl⟩)
            | (go_at_call_of 80 (Value.int .i64 z); refine R2.out.mono ?_; rintro e w' ⟨rfl, rfl⟩))
          go_roundg (gk - 1)
          case measure => omega
          case rel => exact ⟨k + 1, m, by omega, by simp, by omega, Lib.hid (by rw [HT.out]; exact HM.out), HS.out, HB.out, by rw [HT.out]; exact HO.out⟩
        · have HT := Lib.hid (show tellL (keepE il) (l.take (k + 1)) = tellL (keepE il) (l.take k) ++ [(x, y, z)] by rw [htake2]; simp)
          clear htake2
          go_wp2_with (first
            | (go_at_call_of 80 (Value.int .i64 x); refine R1.out.mono ?_; rintro e w' ⟨rfl, rfl⟩)
            | (go_at_call_of 80 (Value.int .i64 z); refine R2.out.mono ?_; rintro e w' ⟨rfl, rfl⟩)
            | (at_builtin; refine wpList_append_lies (wr.alloc (.cells #[.int .i64 x, .int .i64 y, .int .i64 z] 44)) rfl (.tmp 38) (.tmp 43) 22 rfl w2.heap.size 44 i0 (.agg #[.int .i64 0, .int .i64 0, .int .i64 0]) 3 24 Try.underlying22 hi0 hz0 hz1 hz2 rfl (by decide) u6 m (edCells (tellL (keepE il) (l.take k))) rfl (HO.out.alloc _) ⟨wr.heap.size, 0, none⟩ 1 1 [.int .i64 x, .int .i64 y, .int .i64 z] rfl rfl (World.news_of_block (heap_alloc_new wr _)) (by simp [Value.oneCell']) (by omega) (by unfold maxLen; omega) (by omega) (by simp; omega) (wr.heap.size + 1) (by simp) ?_; intro g2 cap2 w4 hown2 hgr2 hor2 hlt4; have HO4 := Lib.hid hown2; have HB4 := Lib.hid ((HB.out.alloc HB.out.size (.cells #[.int .i64 x, .int .i64 y, .int .i64 z] 44)).grown hgr2 (HB.out.alloc HB.out.size _).size (fun q hq => (HO.out.lt q hq).1)); have HS4 := Lib.hid ((HS.out.more (balloc wr (.cells #[.int .i64 x, .int .i64 y, .int .i64 z] 44))).frm ((Frm.refl (fun q => u6.ownBlock = some q) _).grown hgr2 (fun q hq _ => hq)) (fun q hq => by have := (HO.out.lt q hq).1; omega)); clear hown2 hgr2 hor2))
          go_roundg (gk - 1)
          case measure => omega
          case rel => exact ⟨k + 1, m + 1, by omega, by simp, by omega, Lib.hid (by rw [HT.out, List.length_append]; have := HM.out; simp; omega), HS4.out, HB4.out, rown_next HT.out HO4.out⟩
    · obtain rfl : gk = 0 := by omega
      obtain rfl : k = n := by omega
      have hfull : l.take k = l := by rw [← HLN.out]; exact List.take_length
      rw [hfull] at HM ho
      have hsv : ∃ a cap, u6 = .slice a m cap := by
        rcases ho.2 with ⟨e, h0⟩ | ⟨g, cap, cur, e, -⟩
        · exact ⟨none, 0, by rw [e, h0]⟩
        · exact ⟨_, cap, e⟩
      have HE := Lib.hid (ownsRow_edges (l := tellL (keepE il) l) (by rw [HM.out]; exact ho))
      obtain ⟨ra, rc, rfl⟩ := hsv
      have HS3 := Lib.hid hS
      have a0 := cell_of_block hS.vg 0 _ rfl
      have a1 := cell_of_block hS.vg 1 _ rfl
      have a2 := cell_of_block hS.vg 2 _ rfl
      have HLL : Hid ((tellL (keepE il) l).length ≤ 1000000) := Lib.hid (by rw [HM.out]; omega)
      clear ho hS hb hfull
      go_wp2_with (first
        | (go_at_call 31; refine (HNN.out _ HS3.out.below).mono ?_; rintro e w4 ⟨rfl, hb4⟩; have HS4 := Lib.hid (HS3.out.more hb4); have HE4 := Lib.hid (HE.out.below hb4); clear hb4)
        | (go_at_call 22; refine (rbuild_any _ _ _ _ HE4.out HLL.out).mono ?_; rintro e w5 ⟨v5, rfl, hG, hb5⟩; have hs6 := (HS4.out.more hb5); obtain ⟨s1, s2, s3, c1, c2, c3, rfl, -⟩ := hG.var; have HG := Lib.hid hG; have HS5 := Lib.hid hs6; have hz5 := hs6.size; have r0 := cell_of_block hs6.vr 0 _ rfl; have r1 := cell_of_block hs6.vr 1 _ rfl; have r2 := cell_of_block hs6.vr 2 _ rfl; have g0 := free_of_block hs6.vr 0; have g1 := free_of_block hs6.vr 1; have g2 := free_of_block hs6.vr 2; clear hb5 hG hs6))
      obtain ⟨q1, q2, q3, q4, q5⟩ := HS5.out.ret HG.out
      generalize buildG (nn : Nat) (tellL (keepE il) l) = G at *
      have t1 := bkeep (balloc _ (.cells #[.slice s1 G.S.length c1, .slice s2 G.A.length c2, .slice s3 G.T.length c3] 26)) q1
      have t2 := bkeep (balloc _ (.cells #[.slice s1 G.S.length c1, .slice s2 G.A.length c2, .slice s3 G.T.length c3] 26)) q2
      have t3 := bkeep (balloc _ (.cells #[.slice s1 G.S.length c1, .slice s2 G.A.length c2, .slice s3 G.T.length c3] 26)) q3
      refine bodyPost_ret (v := .agg #[.slice s1 G.S.length c1, .slice s2 G.A.length c2, .slice s3 G.T.length c3]) (by simp [results, Try.results37, go_sem, t1, t2, t3]) rfl ?_
      exact ⟨_, rfl, q4.below (balloc _ _), q5.trans ((balloc _ _).mono q5.size)⟩
theorem rkeep_ok (v u : Value) (g : Gr) (il : List Bool) (w : World) (h : GraphAt w v g) (hu : BoolsAt w u il) (hil : il.length ≤ 9223372036854775807) : Calls Try.prog 37 #[v, u] w (GraphBack w (keepG g il)) := by
  cases hr : rightB g
  · exact rkeep_not v u g il w h hr
  · exact rkeep_right v u g il w h hu ((rightB_iff g).1 hr) hil
end Go.Proofs.Ytnlaonppgebpoaa
