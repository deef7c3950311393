/-
  ref: Out, in a row of its own. What is on a circle: the document's.
-/
import Derived.Test.YtlhpjfnfemebdaaOutN
import Derived.Test.YtlhpjfnfemebdaaJCovS
import Derived.Test.YtlhpjfnfemebdaaJCovD
namespace Go.Proofs.Ytlhpjfnfemebdaa
open Go.RowKit
set_option maxRecDepth 100000 in
set_option maxHeartbeats 8000000 in
theorem rout_new (v : Value) (g : Gr) (i : Int) (w : World) (h : GraphAt w v g) : Calls Try.prog 34 #[v, .int .i64 i] w (EdgesOwn w (outL g i)) := by
 have h4 := h.sS
 have h6 := h.sT
 obtain ⟨sa, aa, ta, sc, ac, tc, rfl, hv⟩ := h.var
 have hb := balloc w (.cells #[.slice sa g.S.length sc, .slice aa g.A.length ac, .slice ta g.T.length tc] 30)
 have HN := Lib.hid (rnodes_ok _ g _ (h.below hb))
 by_cases h0 : i < 0
 ·have e : outL g i = [] := by unfold outL; rw [if_neg (by omega)]
  rw [e]
  have HB := Lib.hid hb
  clear h hv hb
  go_enter Try.func34, Try.ntmps34
  go_wp2_with fail
  go_ret
  exact ⟨_, rfl, World.ownsRow_nil _ _ _ _, HB.out⟩
 ·by_cases h1 : i < (nodesN g : Int)
  ·have hR : Rt g := by
    cases hh : rightB g
    ·rw [nodesN_not hh] at h1; omega
    ·exact (rightB_iff g).1 hh
   have hn := nodesN_right hR
   obtain ⟨k, rfl⟩ : ∃ k : Nat, i = (k : Int) := ⟨i.toNat, by omega⟩
   have hk : k + 1 < g.S.length := by omega
   have e : outL g k = eds g k := by unfold outL; rw [if_pos ⟨(rightB_iff g).2 hR, by omega, by omega⟩]; simp
   rw [e]
   clear e
   have hsl := hR.stLe (i := k) (j := k + 1) (by omega) (by omega)
   have hst := hR.stTop (i := k + 1) (by omega)
   obtain ⟨i0, hi0, hz0, hz1, hz2⟩ := info_parts Try.info65
   have s0 := hv.hs k (by omega)
   rw [hR.st (by omega)] at s0
   have s1 := hv.hs (k + 1) hk
   rw [hR.st hk] at s1
   obtain ⟨b, off, rfl, s0⟩ := s0
   obtain ⟨b', off', e, s1⟩ := s1
   cases e
   have c0 := hv.c0
   have HB := Lib.hid hb
   have HR := Lib.hid hR
   have HV := Lib.hid hv
   have hnk : ¬ nodesN g ≤ k := by omega
   clear h hv hb hR hn
   go_enter Try.func34, Try.ntmps34
   go_wp2_with (first
    | (go_at_call 55; refine HN.out.mono ?_; rintro e w1 ⟨rfl, hb1⟩; have x0 := bkeep hb1 c0; have y0 := bkeep hb1 s0; have y1 := bkeep hb1 s1; have HV1 := Lib.hid (HV.out.below hb1); have HB1 := Lib.hid (HB.out.trans (hb1.mono HB.out.size)); clear hb1 c0 s0 s1))
   obtain ⟨len, hlen⟩ : ∃ n : Nat, st g (k + 1) = st g k + n := ⟨st g (k + 1) - st g k, by omega⟩
   rw [hlen] at y1
   have heds : eds g k = edsN g k len := by unfold eds; congr 1; omega
   have HED := Lib.hid heds
   clear heds
   go_loopg [5, 6] len (fun fu v c wr => ∃ r : Nat, r + fu = len ∧ c = .int .i64 (st g k + r : Nat) ∧ wr.ownsRow w1.heap.size 65 3 v r (edCells (edsN g k r)) ∧ Below w1.heap.size w1 wr)
   case atStart => exact ⟨0, by omega, rfl, ⟨rfl, .inl ⟨rfl, rfl⟩⟩, Below.refl _ _⟩
   case round =>
    obtain ⟨r, hr, rfl, ho, hb⟩ := hrel
    have z0 := bkeep hb x0
    have z1 := bkeep hb y1
    have e1 : IntKind.i64.wrap ((k : Int) + 1) = ((k + 1 : Nat) : Int) := by rw [IntWalk.i64_in _ (by omega)]; simp
    by_cases hlt : r < len
    ·generalize hp : st g k + r = p at *
     have hkT : p < g.T.length := by omega
     have hkA : p < g.A.length := by rw [HR.out.lens]; exact hkT
     have c1 := bkeep hb HV1.out.c1
     have c2 := bkeep hb HV1.out.c2
     obtain ⟨ba, oa, rfl, a0⟩ := HV1.out.ha p hkA
     obtain ⟨bt, ot, rfl, t0⟩ := HV1.out.ht p hkT
     have a1 := bkeep hb a0
     have t1 := bkeep hb t0
     have hnext : edsN g k (r + 1) = edsN g k r ++ [edge g k p] := by rw [edsN_succ, hp]
     have b1 : (p : Int) < (g.A.length : Int) := by omega
     have b2 : (p : Int) < (g.T.length : Int) := by omega
     have b3 : (p : Int) < (st g k : Int) + (len : Int) := by omega
     have hedge : edge g k p = ((k : Int), g.A.getD p 0, g.T.getD p 0) := rfl
     rw [hedge] at hnext
     generalize g.A.getD p 0 = xa at *
     generalize g.T.getD p 0 = xt at *
     have HO := Lib.hid ho
     have HBB := Lib.hid hb
     have HP := Lib.hid hp
     have HX := Lib.hid hnext
     have hsz := hb.size
     have M1 : Hid (r + 1 ≤ maxLen) := Lib.hid (by unfold maxLen; omega)
     have M2 : Hid ((r + 1) * 24 ≤ 140737488355328) := Lib.hid (by omega)
     clear ho hb hp hnext hedge a0 t0 hlen
     go_wp2_with fail
     go_region_law (refine step_append_lies ((wr.alloc (.cells #[.int .i64 k, .int .i64 xa, .int .i64 xt] 65)).drew) rfl (.tmp 30) (.tmp 43) 62 rfl w1.heap.size 65 i0 (.agg #[.int .i64 0, .int .i64 0, .int .i64 0]) 3 24 Try.underlying62 hi0 hz0 hz1 hz2 rfl (by decide) u5 r (edCells (edsN g k r)) (by simp [Act.eval]) (HO.out.alloc _) ⟨wr.heap.size, 0, none⟩ 1 1 [.int .i64 k, .int .i64 xa, .int .i64 xt] (by simp [Act.eval]) rfl (World.news_of_block (heap_alloc_new wr _)) (by simp [Value.oneCell']) Nat.one_pos M1.out M2.out (HBB.out.alloc HBB.out.size _).size (wr.heap.size + 1) (by simp) ?_; intro g2 cap2 w4 hown2 hgr2 hor2 hlt2; have HB4 := Lib.hid (rapp_step HBB.out HO.out hgr2); have HO4 := Lib.hid hown2; clear hgr2 hown2)
     clear e1
     all_goals go_wp2_with fail
     all_goals go_roundg (gk - 1)
     all_goals first
      | omega
      | exact ⟨r + 1, by omega, by have := HP.out; simp; omega, rown_next HX.out HO4.out, HB4.out⟩
    ·obtain rfl : gk = 0 := by omega
     obtain rfl : r = len := by omega
     have Q := Lib.hid (And.intro (show wr.ownsRow w1.heap.size 65 3 u5 (edsN g k r).length (edCells (edsN g k r)) by rw [edsN_len]; exact ho) hb)
     clear ho hb e1
     go_wp2_with fail
     go_ret
     exact ⟨_, rfl, HED.out ▸ own_basec Q.out.1 HB1.out.size, HB1.out.trans (Q.out.2.mono HB1.out.size)⟩
  ·have e : outL g i = [] := by
    unfold outL; rw [if_neg]
    rintro ⟨e1, e2, e3⟩
    rw [nodesN_right ((rightB_iff g).1 e1)] at h1; omega
   rw [e]
   have HB := Lib.hid hb
   clear h hb hv e
   go_enter Try.func34, Try.ntmps34
   go_wp2_with (first
    | (go_at_call 55; refine HN.out.mono ?_; rintro e w1 ⟨rfl, hb1⟩; have HB1 := Lib.hid (HB.out.trans (hb1.mono HB.out.size)); clear hb1))
   go_ret
   exact ⟨_, rfl, World.ownsRow_nil _ _ _ _, HB1.out⟩
end Go.Proofs.Ytlhpjfnfemebdaa
namespace Go.Proofs.Ytlhpjfnfemebdaa
open Go.RowKit
def tosL (l : List Ed) : List Int := l.map (fun e => e.2.2)
theorem tosL_take {l : List Ed} {k : Nat} (h : k < l.length) : tosL (l.take (k + 1)) = tosL (l.take k) ++ [(l.getD k (0, 0, 0)).2.2] := by
 unfold tosL
 rw [take_succ_getD (d := (0, 0, 0)) h, List.map_append]; rfl
open Classical in
noncomputable def spinB (g : Gr) (i : Nat) : Bool := decide (spinP g i)
noncomputable def spinK (g : Gr) (k : Nat) : List Int := ((List.range k).filter (spinB g)).map (fun k : Nat => (k : Int))
theorem spinK_succ (g : Gr) (k : Nat) : spinK g (k + 1) = if spinB g k = true then spinK g k ++ [(k : Int)] else spinK g k := by
 unfold spinK
 rw [List.range_succ, List.filter_append, List.map_append, List.filter_cons, List.filter_nil]
 by_cases h : spinB g k = true
 ·rw [if_pos h, if_pos h]; rfl
 ·rw [if_neg h, if_neg h, List.map_nil, List.append_nil]
theorem spinK_len (g : Gr) (k : Nat) : (spinK g k).length ≤ k := by
 unfold spinK
 rw [List.length_map]
 exact Nat.le_trans (List.length_filter_le _ _) (by simp)
set_option maxRecDepth 100000 in
set_option maxHeartbeats 32000000 in
theorem rspins_ok (v : Value) (s : Sp) (w : World) (h : SpV w v s) (hok : buildOk (s.confs.length : Int) s.ed = true) (hn : s.confs.length ≤ 500) (hl : s.ed.length ≤ 1000000) :
  Calls Try.prog 20 #[v] w fun r w' => ∃ rv, r = .returned rv ∧ IntsAt w' rv (spinL (buildG (s.confs.length : Int) s.ed) s.confs.length) ∧ Below w.heap.size w w' := by
 obtain ⟨i0, hi0, hz0, hz1, hz2⟩ := info_parts Try.info3
 obtain ⟨vC, sa, sc, aa, ac, ta, tc, vP, vA, rfl, hC, hG, -, -⟩ := h.var
 obtain ⟨ca, cc, rfl, -⟩ := hC
 obtain ⟨hRt, hnn, -, hou⟩ := sp_right hok
 have HOU := Lib.hid (fun (w' : World) (hb : Below w.heap.size w w') (i : Nat) => rout_new _ _ (i : Int) w' (hG.below hb))
 have HRE := Lib.hid (fun (w' : World) (hb : Below w.heap.size w w') (u : Value) (l : List Int) (hu : IntsAt w' u l) (hl : l.length ≤ 1000000) => rreach_ok _ u _ l w' (hG.below hb) hu hl)
 have HSP : Hid (∀ (i : Nat), i < nodesN (buildG (s.confs.length : Int) s.ed) → (reachL (buildG (s.confs.length : Int) s.ed) (tosL (outL (buildG (s.confs.length : Int) s.ed) (i : Int)))).getD i false = spinB (buildG (s.confs.length : Int) s.ed) i) := Lib.hid (fun i hi => by
  have h1 := spin_reach hRt hi
  classical
  unfold spinB tosL
  cases hb : (reachL (buildG (s.confs.length : Int) s.ed) ((outL (buildG (s.confs.length : Int) s.ed) (i : Int)).map (fun e => e.2.2))).getD i false
  ·rw [hb] at h1
   exact (decide_eq_false (fun hc => by have := h1.2 hc; cases this)).symm
  ·rw [hb] at h1
   exact (decide_eq_true (h1.1 rfl)).symm)
 have HRL := Lib.hid (fun (fr : List Int) => reachL_len hRt fr)
 have HOL : Hid (∀ i : Nat, i < s.confs.length → (outL (buildG (s.confs.length : Int) s.ed) (i : Int)).length ≤ 1000000) := Lib.hid (fun i hi => by rw [hou i hi]; exact Nat.le_trans (List.filter_sublist).length_le hl)
 have HFIN : Hid (spinK (buildG (s.confs.length : Int) s.ed) s.confs.length = spinL (buildG (s.confs.length : Int) s.ed) s.confs.length) := Lib.hid rfl
 rw [hnn] at HSP HRL
 clear h hG hok hnn hRt hou hl
 generalize buildG (s.confs.length : Int) s.ed = g at *
 have HKS := Lib.hid (spinK_succ g)
 have HKL := Lib.hid (spinK_len g)
 have HK0 : Hid (spinK g 0 = []) := Lib.hid rfl
 generalize reachL g = RL at *
 generalize outL g = OL at *
 generalize spinK g = SK at *
 generalize spinB g = SB at *
 generalize g.S.length = nS at *
 generalize g.A.length = nA at *
 generalize g.T.length = nT at *
 generalize s.confs.length = n at *
 have S0 := Lib.hid (BxS.start w #[.slice ca n cc, .slice sa nS sc, .slice aa nA ac, .slice ta nT tc, vP, vA] 32)
 generalize hw2 : w.alloc (.cells #[.slice ca n cc, .slice sa nS sc, .slice aa nA ac, .slice ta nT tc, vP, vA] 32) = w2 at *
 go_enter Try.func20, Try.ntmps20
 go_wp2_with fail
 clear hw2
 go_loopg [3, 4] n (fun fu ov c wr => ∃ (k : Nat), k + fu = n ∧ c = .int .i64 k ∧ Hid (OwnI w2.heap.size wr ov (SK k)) ∧ Hid (Below w2.heap.size w2 wr))
 case atStart => exact ⟨0, by omega, rfl, Lib.hid (by rw [HK0.out]; exact OwnI.nil _ _), Lib.hid (Below.refl _ _)⟩
 case round =>
  obtain ⟨k, hk, rfl, O, HB⟩ := hrel
  have S := Lib.hid (S0.out.more HB.out)
  have c0 := cell_of_block S.out.blk 0 (.slice ca n cc) rfl
  have hkl := HKL.out k
  by_cases hlt : k < n
  ·have z1 : (k : Int) < (n : Int) := by omega
   have c1 := cell_of_block S.out.blk 1 (.slice sa nS sc) rfl
   have c2 := cell_of_block S.out.blk 2 (.slice aa nA ac) rfl
   have c3 := cell_of_block S.out.blk 3 (.slice ta nT tc) rfl
   have HO := Lib.hid (HOU.out wr S.out.below k)
   have hel := HOL.out k hlt
   have hsp := HSP.out k hlt
   have hrl := HRL.out (tosL (OL (k : Int)))
   have hks := HKS.out k
   have HSK := Lib.hid hks
   have HSP2 := Lib.hid hsp
   have HRL2 := Lib.hid hrl
   clear hks hsp hrl
   generalize OL (k : Int) = el at *
   generalize hsk : SK k = sk at *
   go_wp2_with (go_at_call 34; refine HO.out.mono ?_; rintro e1 w4 ⟨ev, rfl, hE, hb4⟩; obtain ⟨ea, ec, rfl⟩ := ownv hE; have HB4 := Lib.hid (HB.out.trans (hb4.mono HB.out.size)); have O4 := Lib.hid (O.out.more hb4); have E4 := Lib.hid (eds_st (F := fun q => (Value.slice none 0 0).ownBlock = some q) hE (fun q hq => by cases hq)); clear hE hb4)
   clear S O HB c0 c1 c2 c3
   obtain ⟨oa, oc, rfl⟩ := ownv O4.out
   have O4S : Hid (St (fun q => (Value.slice none 0 0).ownBlock = some q) (fun wz => OwnI w2.heap.size wz (.slice oa sk.length oc) sk) w4) := Lib.hid (own_st O4.out (fun k _ e => by cases e))
   have HE4 : Hid (w4.heap.size ≤ w4.heap.size) := Lib.hid (Nat.le_refl _)
   go_loopg [6, 7] el.length (fun fu nv c wr => ∃ (q : Nat), q + fu = el.length ∧ c = .int .i64 q ∧ Hid (OwnI w4.heap.size wr nv (tosL (el.take q))) ∧ Hid (St (fun q => nv.ownBlock = some q) (fun w => EdgesAt w (.slice ea el.length ec) el) wr) ∧ Hid (St (fun q => nv.ownBlock = some q) (fun wz => OwnI w2.heap.size wz (.slice oa sk.length oc) sk) wr) ∧ Hid (Below w4.heap.size w4 wr))
   case atStart => exact ⟨0, by omega, rfl, Lib.hid (OwnI.nil _ _), E4, O4S, Lib.hid (Below.refl _ _)⟩
   case round =>
    clear E4 O4S HE4
    obtain ⟨q, hq, rfl, N, ES, OS, HB⟩ := hrel
    obtain ⟨na, nc, hnv⟩ := ownv N.out
    by_cases hql : q < el.length
    ·have z2 : (q : Int) < (el.length : Int) := by omega
     obtain ⟨ea', ec', e0, hec⟩ := ES.out.now
     cases e0
     obtain ⟨b2, o2, rfl, y1, y2, y3⟩ := hec q hql
     have HT := Lib.hid (tosL_take hql)
     have HTL : Hid ((tosL (el.take q)).length = q) := Lib.hid (by unfold tosL; rw [List.length_map, List.length_take]; omega)
     rw [HTL.out] at hnv
     subst hnv
     have HOW : Hid (wr.ownsRow w4.heap.size 3 1 (.slice na q nc) q ((tosL (el.take q)).map (Value.int .i64))) := Lib.hid (by have := N.out; unfold OwnI at this; rwa [HTL.out] at this)
     clear hec y1 y2
     generalize (el.getD q (0, 0, 0)).2.2 = t at *
     go_wp2_with (at_builtin; refine wpList_append_lies (wr.alloc (.cells #[.int .i64 t] 3)) rfl (.tmp 25) (.tmp 31) 22 rfl w4.heap.size 3 i0 (.int .i64 0) 1 8 Try.underlying22 hi0 hz0 hz1 hz2 rfl (by decide) (.slice na q nc) q _ rfl (HOW.out.alloc _) ⟨wr.heap.size, 0, none⟩ 1 1 [.int .i64 t] rfl rfl (World.news_of_block (heap_alloc_new _ _)) (by simp [Value.oneCell']) (by omega) (by unfold maxLen; omega) (by omega) (by have := HB.out.size; simp only [alloc_size]; omega) (wr.heap.size + 1) (by simp) ?_; intro g7 cap7 w7 hown7 hgr7 hor7 hlt7; have HB7 := Lib.hid (below_own HB.out HOW.out hgr7); have N7 : Hid (OwnI w4.heap.size w7 (.slice (some ⟨g7, 0, none⟩) (q + 1) cap7) (tosL (el.take (q + 1)))) := Lib.hid (by unfold OwnI; rw [HT.out, List.length_append, List.map_append, HTL.out]; exact hown7); have K7 : Hid (Frm (fun x => (Value.slice na q nc).ownBlock = some x) wr w7) := Lib.hid ((bfrm (balloc wr (.cells #[.int .i64 t] 3)) _).grown hgr7 (fun k e _ => e)); have F7 : Hid (∀ x, (Value.slice (some ⟨g7, 0, none⟩) (q + 1) cap7).ownBlock = some x → (Value.slice na q nc).ownBlock = some x ∨ wr.heap.size ≤ x) := Lib.hid (own_hor (N := wr.heap.size) (n := q + 1) (cap := cap7) hor7 (by omega)); have ES7 := Lib.hid (ES.out.step K7.out F7.out); have OS7 := Lib.hid (OS.out.step K7.out F7.out); clear hown7 hgr7 hor7 hlt7 K7 F7)
     go_roundg (el.length - (q + 1))
     case measure => omega
     case rel => exact ⟨q + 1, by omega, by simp, N7, ES7, OS7, HB7⟩
    ·obtain rfl : q = el.length := by omega
     have z2 : ¬ (el.length : Int) < (el.length : Int) := by omega
     have HN : Hid (IntsAt wr (.slice na (tosL el).length nc) (tosL el)) := Lib.hid (by have := N.out.ints; rw [hnv] at this; rwa [List.take_length] at this)
     rw [List.take_length] at hnv
     subst hnv
     have HTL : Hid ((tosL el).length = el.length) := Lib.hid (by unfold tosL; rw [List.length_map])
     have HBW : Hid (Below w2.heap.size w2 wr) := Lib.hid (HB4.out.trans (HB.out.mono HB4.out.size))
     have S := Lib.hid (S0.out.more HBW.out)
     have c1 := cell_of_block S.out.blk 1 (.slice sa nS sc) rfl
     have c2 := cell_of_block S.out.blk 2 (.slice aa nA ac) rfl
     have c3 := cell_of_block S.out.blk 3 (.slice ta nT tc) rfl
     have HR := Lib.hid (HRE.out wr S.out.below _ _ HN.out (by rw [HTL.out]; exact hel))
     have O := Lib.hid OS.out.now
     clear ES OS N HN
     generalize tosL el = tl at *
     generalize hRR : RL tl = rr at *
     have HSK3 : Hid (SK (k + 1) = if rr.getD k false = true then sk ++ [(k : Int)] else sk) := Lib.hid (by rw [HSP2.out]; exact HSK.out)
     have hrl2 := HRL2.out
     have z4 : (k : Int) < (rr.length : Int) := by omega
     have HZ4 := Lib.hid hrl2
     clear hrl2 hRR HSP2 HRL2 HSK
     cases hb : rr.getD k false
     ·have HBV := Lib.hid hb
      have E : Hid (SK (k + 1) = sk) := Lib.hid (by have := HSK3.out; rwa [hb, if_neg (by simp)] at this)
      clear HSK3 hb
      go_wp2_with (go_at_call 35; refine HR.out.mono ?_; rintro e1 w5 ⟨bv, rfl, hBo, hb5⟩; obtain ⟨ba, bc, rfl, hbo⟩ := hBo; obtain ⟨b6, o6, rfl, y6⟩ := hbo k (by rw [HZ4.out]; exact hlt); rw [HBV.out] at y6; have O5 := Lib.hid (O.out.more hb5); have HB5 := Lib.hid (HBW.out.trans (hb5.mono HBW.out.size)); clear hbo hb5 c1 c2 c3)
      go_roundg (n - (k + 1))
      case measure => omega
      case rel => exact ⟨k + 1, by omega, by simp, Lib.hid (by rw [E.out]; exact O5.out), HB5⟩
     ·have HBV := Lib.hid hb
      have E : Hid (SK (k + 1) = sk ++ [(k : Int)]) := Lib.hid (by have := HSK3.out; rwa [hb, if_pos rfl] at this)
      clear HSK3 hb
      go_wp2_with (first
       | (at_builtin; refine wpList_append_lies (w5.alloc (.cells #[.int .i64 (k : Nat)] 3)) rfl (.tmp 40) (.tmp 42) 22 rfl w2.heap.size 3 i0 (.int .i64 0) 1 8 Try.underlying22 hi0 hz0 hz1 hz2 rfl (by decide) (.slice oa sk.length oc) sk.length (sk.map (Value.int .i64)) rfl (World.ownsRow.alloc O5.out _) ⟨w5.heap.size, 0, none⟩ 1 1 [.int .i64 (k : Nat)] rfl rfl (World.news_of_block (heap_alloc_new _ _)) (by simp [Value.oneCell']) (by omega) (by unfold maxLen; omega) (by omega) (by have := HB5.out.size; simp only [alloc_size]; omega) (w5.heap.size + 1) (by simp) ?_; intro g7 cap7 w7 hown7 hgr7 hor7 hlt7; have HB7 := Lib.hid (below_own HB5.out O5.out hgr7); have O7 : Hid (OwnI w2.heap.size w7 (.slice (some ⟨g7, 0, none⟩) (sk.length + 1) cap7) (SK (k + 1))) := Lib.hid (by unfold OwnI; rw [E.out, List.length_append, List.map_append]; exact hown7); clear hown7 hgr7 hor7 hlt7)
       | (go_at_call 35; refine HR.out.mono ?_; rintro e1 w5 ⟨bv, rfl, hBo, hb5⟩; obtain ⟨ba, bc, rfl, hbo⟩ := hBo; obtain ⟨b6, o6, rfl, y6⟩ := hbo k (by rw [HZ4.out]; exact hlt); rw [HBV.out] at y6; have O5 := Lib.hid (O.out.more hb5); have HB5 := Lib.hid (HBW.out.trans (hb5.mono HBW.out.size)); clear hbo hb5 c1 c2 c3))
      go_roundg (n - (k + 1))
      case measure => omega
      case rel => exact ⟨k + 1, by omega, by simp, O7, HB7⟩
  ·obtain rfl : k = n := by omega
   have z1 : ¬ (k : Int) < (k : Int) := by omega
   go_wp2_with fail
   go_ret
   exact ⟨_, rfl, by rw [← HFIN.out]; exact O.out.ints, S.out.below⟩
end Go.Proofs.Ytlhpjfnfemebdaa
