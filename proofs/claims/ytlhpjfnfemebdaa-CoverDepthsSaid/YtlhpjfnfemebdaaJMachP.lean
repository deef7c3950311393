/-
  Store buffers: whether two are alike; a store that waits behind. (Written by gen_push.py.) Store buffers: the next store taken out. (Written by gen_pop.py.)
-/
import Derived.Test.YtlhpjfnfemebdaaJMachB
import Derived.Test.YtlhpjfnfemebdaaJRowsM
namespace Go.Proofs.Ytlhpjfnfemebdaa
open Go.RowKit
theorem ownlow {w : World} {base base' : Nat} {e : TypeId} {size : Nat} {v : Value} {n : Nat} {xs : List Value} (h : w.ownsRow base e size v n xs) (hb : base' ≤ base) : w.ownsRow base' e size v n xs :=
 ⟨h.1, h.2.imp id (fun ⟨g, cap, cur, e1, h1, r⟩ => ⟨g, cap, cur, e1, Nat.le_trans hb h1, r⟩)⟩
theorem ens_ext {a b : List En} (hl : a.length = b.length) (h : ∀ k, k < a.length → a.getD k (0, 0) = b.getD k (0, 0)) : a = b := by
 refine List.ext_getElem hl fun k h1 h2 => ?_
 have := h k h1
 rwa [List.getD_eq_getElem?_getD, List.getD_eq_getElem?_getD, List.getElem?_eq_getElem h1, List.getElem?_eq_getElem h2] at this
set_option maxRecDepth 100000 in
set_option maxHeartbeats 8000000 in
theorem sameE_ok (v u : Value) (a b : List En) (w : World) (h : EnsAt w v a) (k : EnsAt w u b) (hl : a.length ≤ 1000000) :
  Calls Try.prog 85 #[v, u] w fun r w' => r = .returned (.bool (decide (a = b))) ∧ Below w.heap.size w w' := by
 obtain ⟨aa, ac, rfl, ha⟩ := h
 obtain ⟨ba, bc, rfl, hb⟩ := k
 have HA := Lib.hid ha
 have HB := Lib.hid hb
 clear ha hb
 by_cases hlen : a.length = b.length
 rotate_left
 ·have E : decide (a = b) = false := decide_eq_false (fun e => hlen (by rw [e]))
  rw [E]
  have n1 : ((a.length : Int) != (b.length : Int)) = true := by simp; omega
  clear E hlen HA HB
  go_enter Try.func85, Try.ntmps85
  go_wp2_with fail
  go_ret
  exact ⟨rfl, Below.refl _ _⟩
 have HEQ : Hid ((∀ k, k < a.length → a.getD k (0, 0) = b.getD k (0, 0)) → decide (a = b) = true) := Lib.hid (fun q => decide_eq_true (ens_ext hlen q))
 have HNE : Hid (∀ k, a.getD k (0, 0) ≠ b.getD k (0, 0) → decide (a = b) = false) := Lib.hid (fun k q => decide_eq_false (fun e => q (by rw [e])))
 have n1 : ((a.length : Int) != (b.length : Int)) = false := by simp; omega
 have HLN := Lib.hid hlen
 generalize decide (a = b) = RES at *
 clear hlen
 go_enter Try.func85, Try.ntmps85
 go_wp2_with fail
 clear n1
 go_loopg [5] a.length (fun fu c wr => ∃ k : Nat, k + fu = a.length ∧ c = .int .i64 k ∧ Hid (∀ j, j < k → a.getD j (0, 0) = b.getD j (0, 0)) ∧ Hid (Below w.heap.size w wr))
 case atStart => exact ⟨0, by omega, rfl, Lib.hid (fun j hj => by omega), Lib.hid (Below.refl _ _)⟩
 case round =>
  obtain ⟨k, hk, rfl, HI, HBW⟩ := hrel
  by_cases hlt : k < a.length
  ·obtain ⟨b1, o1, rfl, d1, d2⟩ := HA.out k hlt
   obtain ⟨b2, o2, rfl, e1, e2⟩ := HB.out k (by have := HLN.out; omega)
   have d1 := bkeep HBW.out d1
   have d2 := bkeep HBW.out d2
   have e1 := bkeep HBW.out e1
   have e2 := bkeep HBW.out e2
   have z1 : (k : Int) < (a.length : Int) := by omega
   have z2 : (k : Int) < (b.length : Int) := by have := HLN.out; omega
   have HN := Lib.hid (HNE.out k)
   have HI2 : Hid (a.getD k (0, 0) = b.getD k (0, 0) → ∀ j, j < k + 1 → a.getD j (0, 0) = b.getD j (0, 0)) := Lib.hid (fun h j hj => by
    by_cases e : j = k
    ·rw [e]; exact h
    ·exact HI.out j (by omega))
   clear HNE
   generalize a.getD k (0, 0) = x at *
   generalize b.getD k (0, 0) = y at *
   have hne := ens_neq x.1 x.2 y.1 y.2
   by_cases hxy : x = y
   ·have HI3 := Lib.hid (HI2.out hxy)
    subst hxy
    have q1 : (!((x.1 == x.1) && (x.2 == x.2))) = false := by simp
    rw [q1] at hne
    clear HI2 HN q1
    go_wp2_with fail
    go_quiet (fail)
    go_wp2_with fail
    go_roundg (a.length - (k + 1))
    case measure => omega
    case rel => exact ⟨k + 1, by omega, by simp, HI3, Lib.hid (by first | exact HBW.out.drew | exact bdrewN HBW.out _)⟩
   ·have E := Lib.hid (HN.out hxy)
    have q1 : (!((x.1 == y.1) && (x.2 == y.2))) = true := by
     have : ¬ (x.1 = y.1 ∧ x.2 = y.2) := fun q => hxy (Prod.ext q.1 q.2)
     cases h1 : (x.1 == y.1)
     ·rfl
     ·cases h2 : (x.2 == y.2)
      ·rfl
      ·exact absurd ⟨beq_iff_eq.1 h1, beq_iff_eq.1 h2⟩ this
    rw [q1] at hne
    clear HI2 HN q1 hxy
    go_wp2_with fail
    go_quiet (fail)
    go_wp2_with fail
    go_ret
    exact ⟨by rw [E.out]; rfl, by first | exact HBW.out.drew | exact bdrewN HBW.out _⟩
  ·have E := Lib.hid (HEQ.out (fun j hj => HI.out j (by omega)))
   go_wp2_with fail
   go_ret
   exact ⟨by rw [E.out]; rfl, HBW.out⟩
def inK (e : En) (b : List En) : Nat → List En × Bool
 | 0 => ([], false)
 | k + 1 => if (inK e b k).2 = false ∧ e.1 < (b.getD k (0, 0)).1 then ((inK e b k).1 ++ [e] ++ [b.getD k (0, 0)], true) else ((inK e b k).1 ++ [b.getD k (0, 0)], (inK e b k).2)
def pushE (b : List En) (model : Int) (e : En) : List En := if model = 2 then b ++ [e] else if (inK e b b.length).2 = true then (inK e b b.length).1 else (inK e b b.length).1 ++ [e]
theorem inK_len (e : En) (b : List En) : ∀ k, (inK e b k).1.length ≤ k + (if (inK e b k).2 = true then 1 else 0)
 | 0 => by simp [inK]
 | k + 1 => by
  have := inK_len e b k
  rw [inK]
  split
  ·rename_i h
   rw [h.1] at this
   simp at this ⊢; omega
  ·simp only [List.length_append, List.length_singleton]; omega
theorem OwnE.snoc {base : Nat} {w : World} {v : Value} {l : List En} {e : En} {m : Nat} (h : w.ownsRow base 103 2 v m (enCells l ++ [.int .i64 e.1, .int .i64 e.2])) (hm : l.length + 1 = m) : OwnE base w v (l ++ [e]) := by
 unfold OwnE
 rw [List.length_append, enCells_app]
 subst hm
 exact h
set_option maxRecDepth 100000 in
set_option maxHeartbeats 32000000 in
theorem push2_ok (v : Value) (b : List En) (e : En) (w : World) (h : EnsAt w v b) (hl : b.length ≤ 1000) :
  Calls Try.prog 84 #[v, .int .i64 2, .agg #[.int .i64 e.1, .int .i64 e.2]] w fun r w' => ∃ rv, r = .returned rv ∧ OwnE w.heap.size w' rv (pushE b 2 e) ∧ Below w.heap.size w w' := by
 obtain ⟨i0, hi0, hz0, hz1, hz2⟩ := info_parts Try.info103
 have hbx := balloc w (.cells #[.int .i64 e.1, .int .i64 e.2] 103)
 have S0 := Lib.hid (BxC.start w #[.int .i64 e.1, .int .i64 e.2] 103)
 have hsrc := (h.below hbx).src
 have HS := Lib.hid hsrc
 obtain ⟨a, c, rfl, -⟩ := h
 have E : pushE b 2 e = b ++ [e] := rfl
 rw [E]
 clear E hbx hsrc
 generalize hw1 : w.alloc (.cells #[.int .i64 e.1, .int .i64 e.2] 103) = w1 at *
 have c0 := cell_of_block S0.out.blk 0 (.int .i64 e.1) rfl
 have c1 := cell_of_block S0.out.blk 1 (.int .i64 e.2) rfl
 go_enter Try.func84, Try.ntmps84
 go_wp2_with (first
  | (at_builtin; refine wpList_append_lies (w2.alloc (.cells #[.int .i64 e.1, .int .i64 e.2] 103)) rfl (.tmp 17) (.tmp 19) 99 rfl w.heap.size 103 i0 (.agg #[.int .i64 0, .int .i64 0]) 2 16 Try.underlying99 hi0 hz0 hz1 hz2 rfl (by decide) (.slice ad b.length cap) (b.length) _ rfl (World.ownsRow.alloc HO2.out _) ⟨w2.heap.size, 0, none⟩ 1 1 [.int .i64 e.1, .int .i64 e.2] rfl rfl (World.news_of_block (heap_alloc_new _ _)) (by simp [Value.oneCell']) (by omega) (by unfold maxLen; omega) (by omega) (by have := HB2.out.size; simp; omega) (w2.heap.size + 1) (by simp) ?_; intro g3 cap3 w3 hown3 hgr3 hor3 hlt3; have HO3 := Lib.hid hown3; have HB3 := Lib.hid (below_own HB2.out HO2.out hgr3); clear hown3 hgr3 hor3)
  | (at_builtin; (refine wp_gcopy rfl (.tmp 12) (.tmp 13) rfl Try.underlying99 hi0 hz0 hz1 hz2 rfl (by decide) w.heap.size rfl rfl HS.out (by omega) (by omega) S0.out.below.size ?_); intro ad cap w2 hown hgr hor; have HO2 := Lib.hid hown; have hb2 : Below w.heap.size w w2 := S0.out.below.grown hgr S0.out.below.size (fun k hk => by cases hk); have S2 := Lib.hid (show BxC w w2 #[.int .i64 e.1, .int .i64 e.2] 103 from ⟨hb2, by rw [hgr.block _ (Array.getElem?_eq_some_iff.1 S0.out.blk).1 (by simp)]; exact S0.out.blk⟩); have HB2 := Lib.hid hb2; clear c0 c1 hown hgr hor hb2; have c0 := cell_of_block S2.out.blk 0 (.int .i64 e.1) rfl; have c1 := cell_of_block S2.out.blk 1 (.int .i64 e.2) rfl))
 go_ret
 exact ⟨_, rfl, OwnE.snoc HO3.out rfl, HB3.out⟩
set_option maxRecDepth 100000 in
set_option maxHeartbeats 32000000 in
theorem push3_ok (v : Value) (b : List En) (e : En) (w : World) (h : EnsAt w v b) (hl : b.length ≤ 1000) :
  Calls Try.prog 84 #[v, .int .i64 3, .agg #[.int .i64 e.1, .int .i64 e.2]] w fun r w' => ∃ rv, r = .returned rv ∧ OwnE w.heap.size w' rv (pushE b 3 e) ∧ Below w.heap.size w w' := by
 obtain ⟨i0, hi0, hz0, hz1, hz2⟩ := info_parts Try.info103
 have hbx := balloc w (.cells #[.int .i64 e.1, .int .i64 e.2] 103)
 have S0 := Lib.hid (BxC.start w #[.int .i64 e.1, .int .i64 e.2] 103)
 have h1 := h.below hbx
 obtain ⟨a, c, rfl, ha⟩ := h1
 have HA := Lib.hid ha
 have HS : Hid (∀ k, inK e b (k + 1) = if (inK e b k).2 = false ∧ e.1 < (b.getD k (0, 0)).1 then ((inK e b k).1 ++ [e] ++ [b.getD k (0, 0)], true) else ((inK e b k).1 ++ [b.getD k (0, 0)], (inK e b k).2)) := Lib.hid (fun k => rfl)
 have HL := Lib.hid (inK_len e b)
 have HE : Hid (pushE b 3 e = if (inK e b b.length).2 = true then (inK e b b.length).1 else (inK e b b.length).1 ++ [e]) := Lib.hid rfl
 have H0 : Hid (inK e b 0 = ([], false)) := Lib.hid rfl
 clear ha h hbx
 generalize pushE b 3 e = RES at *
 generalize inK e b = IK at *
 generalize hw1 : w.alloc (.cells #[.int .i64 e.1, .int .i64 e.2] 103) = w1 at *
 go_enter Try.func84, Try.ntmps84
 go_wp2_with fail
 clear hw1
 go_loopg [7, 8, 9] b.length (fun fu ov pv c wr => ∃ (k : Nat) (o : List En) (p : Bool), k + fu = b.length ∧ pv = .bool p ∧ c = .int .i64 k ∧ Hid (IK k = (o, p)) ∧ Hid (OwnE w1.heap.size wr ov o) ∧ Hid (Below w1.heap.size w1 wr))
 case atStart => exact ⟨0, [], false, by omega, rfl, rfl, H0, Lib.hid (OwnE.nil _ _), Lib.hid (Below.refl _ _)⟩
 case round =>
  clear H0
  obtain ⟨k, o, p, hk, rfl, rfl, HI, HO, HB⟩ := hrel
  have hlen := HL.out k
  rw [HI.out] at hlen
  simp only at hlen
  have S := Lib.hid (S0.out.more HB.out)
  have c0 := cell_of_block S.out.blk 0 (.int .i64 e.1) rfl
  have c1 := cell_of_block S.out.blk 1 (.int .i64 e.2) rfl
  obtain ⟨oa, oc, rfl⟩ := ownv HO.out
  have hol : o.length ≤ 2000 := by
   have : (if p = true then 1 else 0) ≤ 1 := by split <;> omega
   omega
  by_cases hlt : k < b.length
  ·obtain ⟨b1, o1, rfl, x1, x2⟩ := HA.out k hlt
   have d1 := bkeep HB.out x1
   have d2 := bkeep HB.out x2
   have z1 : (k : Int) < (b.length : Int) := by omega
   have hs := HS.out k
   rw [HI.out] at hs
   simp only at hs
   clear HS HL HE HI hlen
   generalize b.getD k (0, 0) = x at *
   by_cases hc : p = false ∧ e.1 < x.1
   ·obtain ⟨rfl, hgt⟩ := hc
    rw [if_pos ⟨rfl, hgt⟩] at hs
    have E := Lib.hid hs
    have y1 : decide (e.1 < x.1) = true := decide_eq_true hgt
    clear hs
    go_wp2_with fail
    go_quiet (fail)
    have HBZ := Lib.hid (HB.out.trans ((bdrewN (Below.refl wr.heap.size wr) nq).mono HB.out.size))
    have HO1 := Lib.hid (HO.out.more (bdrewN (Below.refl _ _) nq))
    clear c0 c1 S HO HB d1 d2
    generalize wr.drewN nq = wz at *
    have SZ := Lib.hid (S0.out.more HBZ.out)
    have c0 := cell_of_block SZ.out.blk 0 (.int .i64 e.1) rfl
    have c1 := cell_of_block SZ.out.blk 1 (.int .i64 e.2) rfl
    go_wp2_with (first
     | (at_builtin; refine wpList_append_lies (w3.alloc (.cells #[.int .i64 x.1, .int .i64 x.2] 103)) rfl (.tmp 44) (.tmp 49) 99 rfl w1.heap.size 103 i0 (.agg #[.int .i64 0, .int .i64 0]) 2 16 Try.underlying99 hi0 hz0 hz1 hz2 rfl (by decide) (.slice (some ⟨g3, 0, none⟩) (o.length + 1) cap3) (o.length + 1) _ rfl (World.ownsRow.alloc HO3.out _) ⟨w3.heap.size, 0, none⟩ 1 1 [.int .i64 x.1, .int .i64 x.2] rfl rfl (World.news_of_block (heap_alloc_new _ _)) (by simp [Value.oneCell']) (by omega) (by unfold maxLen; omega) (by omega) (by have := HB3.out.size; simp; omega) (w3.heap.size + 1) (by simp) ?_; intro g4 cap4 w4 hown4 hgr4 hor4 hlt4; have HO4 := Lib.hid hown4; have HB4 := Lib.hid (below_own HB3.out HO3.out hgr4); clear hown4 hgr4 hor4)
     | (at_builtin; refine wpList_append_lies (wz.alloc (.cells #[.int .i64 e.1, .int .i64 e.2] 103)) rfl (.tmp 40) (.tmp 42) 99 rfl w1.heap.size 103 i0 (.agg #[.int .i64 0, .int .i64 0]) 2 16 Try.underlying99 hi0 hz0 hz1 hz2 rfl (by decide) (.slice oa o.length oc) (o.length) _ rfl (World.ownsRow.alloc HO1.out _) ⟨wz.heap.size, 0, none⟩ 1 1 [.int .i64 e.1, .int .i64 e.2] rfl rfl (World.news_of_block (heap_alloc_new _ _)) (by simp [Value.oneCell']) (by omega) (by unfold maxLen; omega) (by omega) (by have := HBZ.out.size; simp; omega) (wz.heap.size + 1) (by simp) ?_; intro g3 cap3 w3 hown3 hgr3 hor3 hlt3; have HO3 := Lib.hid hown3; have HB3 := Lib.hid (below_own HBZ.out HO1.out hgr3); clear hown3 hgr3 hor3; have d1 := bkeep HB3.out x1; have d2 := bkeep HB3.out x2))
    go_roundg (b.length - (k + 1))
    case measure => omega
    case rel => exact ⟨k + 1, _, true, by omega, rfl, by simp, E, Lib.hid (OwnE.snoc (l := o ++ [e]) (by rw [enCells_app]; exact HO4.out) (by simp)), HB4⟩
   ·rw [if_neg hc] at hs
    have E := Lib.hid hs
    clear hs
    cases p
    ·have hle : x.1 ≤ e.1 := by
      rcases Int.lt_or_le e.1 x.1 with q | q
      ·exact absurd ⟨rfl, q⟩ hc
      ·exact q
     have y1 : decide (e.1 < x.1) = false := decide_eq_false (by omega)
     clear hc
     go_wp2_with fail
     go_quiet (fail)
     have HBZ := Lib.hid (HB.out.trans ((bdrewN (Below.refl wr.heap.size wr) nq).mono HB.out.size))
     have HO1 := Lib.hid (HO.out.more (bdrewN (Below.refl _ _) nq))
     clear c0 c1 S HO HB d1 d2
     generalize wr.drewN nq = wz at *
     have d1 := bkeep HBZ.out x1
     have d2 := bkeep HBZ.out x2
     go_wp2_with (at_builtin; refine wpList_append_lies (wz.alloc (.cells #[.int .i64 x.1, .int .i64 x.2] 103)) rfl (.tmp 44) (.tmp 49) 99 rfl w1.heap.size 103 i0 (.agg #[.int .i64 0, .int .i64 0]) 2 16 Try.underlying99 hi0 hz0 hz1 hz2 rfl (by decide) (.slice oa o.length oc) (o.length) _ rfl (World.ownsRow.alloc HO1.out _) ⟨wz.heap.size, 0, none⟩ 1 1 [.int .i64 x.1, .int .i64 x.2] rfl rfl (World.news_of_block (heap_alloc_new _ _)) (by simp [Value.oneCell']) (by omega) (by unfold maxLen; omega) (by omega) (by have := HBZ.out.size; simp; omega) (wz.heap.size + 1) (by simp) ?_; intro g3 cap3 w3 hown3 hgr3 hor3 hlt3; have HO3 := Lib.hid hown3; have HB3 := Lib.hid (below_own HBZ.out HO1.out hgr3); clear hown3 hgr3 hor3)
     go_roundg (b.length - (k + 1))
     case measure => omega
     case rel => exact ⟨k + 1, _, false, by omega, rfl, by simp, E, Lib.hid (OwnE.snoc HO3.out rfl), HB3⟩
    ·clear hc
     go_wp2_with fail
     go_quiet (fail)
     have HBZ := Lib.hid (HB.out.trans ((bdrewN (Below.refl wr.heap.size wr) nq).mono HB.out.size))
     have HO1 := Lib.hid (HO.out.more (bdrewN (Below.refl _ _) nq))
     clear c0 c1 S HO HB d1 d2
     generalize wr.drewN nq = wz at *
     have d1 := bkeep HBZ.out x1
     have d2 := bkeep HBZ.out x2
     go_wp2_with (at_builtin; refine wpList_append_lies (wz.alloc (.cells #[.int .i64 x.1, .int .i64 x.2] 103)) rfl (.tmp 44) (.tmp 49) 99 rfl w1.heap.size 103 i0 (.agg #[.int .i64 0, .int .i64 0]) 2 16 Try.underlying99 hi0 hz0 hz1 hz2 rfl (by decide) (.slice oa o.length oc) (o.length) _ rfl (World.ownsRow.alloc HO1.out _) ⟨wz.heap.size, 0, none⟩ 1 1 [.int .i64 x.1, .int .i64 x.2] rfl rfl (World.news_of_block (heap_alloc_new _ _)) (by simp [Value.oneCell']) (by omega) (by unfold maxLen; omega) (by omega) (by have := HBZ.out.size; simp; omega) (wz.heap.size + 1) (by simp) ?_; intro g3 cap3 w3 hown3 hgr3 hor3 hlt3; have HO3 := Lib.hid hown3; have HB3 := Lib.hid (below_own HBZ.out HO1.out hgr3); clear hown3 hgr3 hor3)
     go_roundg (b.length - (k + 1))
     case measure => omega
     case rel => exact ⟨k + 1, _, true, by omega, rfl, by simp, E, Lib.hid (OwnE.snoc HO3.out rfl), HB3⟩
  ·have hkk : k = b.length := by omega
   subst hkk
   have he := HE.out
   rw [HI.out] at he
   simp only at he
   have HW1 := Lib.hid S0.out.below
   cases p
   ·rw [if_neg (by simp)] at he
    have E := Lib.hid he
    clear he HE HL HS
    go_wp2_with (at_builtin; refine wpList_append_lies (wr.alloc (.cells #[.int .i64 e.1, .int .i64 e.2] 103)) rfl (.tmp 53) (.tmp 55) 99 rfl w1.heap.size 103 i0 (.agg #[.int .i64 0, .int .i64 0]) 2 16 Try.underlying99 hi0 hz0 hz1 hz2 rfl (by decide) (.slice oa o.length oc) (o.length) _ rfl (World.ownsRow.alloc HO.out _) ⟨wr.heap.size, 0, none⟩ 1 1 [.int .i64 e.1, .int .i64 e.2] rfl rfl (World.news_of_block (heap_alloc_new _ _)) (by simp [Value.oneCell']) (by omega) (by unfold maxLen; omega) (by omega) (by have := HB.out.size; simp; omega) (wr.heap.size + 1) (by simp) ?_; intro g3 cap3 w3 hown3 hgr3 hor3 hlt3; have HO3 := Lib.hid hown3; have HB3 := Lib.hid (below_own HB.out HO.out hgr3); clear hown3 hgr3 hor3)
    go_ret
    exact ⟨_, rfl, by rw [E.out]; exact ownlow (OwnE.snoc HO3.out rfl) HW1.out.size, HW1.out.trans (HB3.out.mono HW1.out.size)⟩
   ·rw [if_pos rfl] at he
    have E := Lib.hid he
    clear he HE HL HS
    go_wp2_with fail
    go_ret
    exact ⟨_, rfl, by rw [E.out]; exact ownlow HO.out HW1.out.size, HW1.out.trans (HB.out.mono HW1.out.size)⟩
end Go.Proofs.Ytlhpjfnfemebdaa
namespace Go.Proofs.Ytlhpjfnfemebdaa
open Go.RowKit
def atK (n : Nat) (P : Nat → Bool) : Nat → Int
 | 0 => -1
 | d + 1 => if P (n - (d + 1)) = true then ((n - (d + 1) : Nat) : Int) else atK n P d
def popI (b : List En) (model loc : Int) : Int := if model = 2 then (if b.length = 0 then -1 else 0) else atK b.length (fun j => decide ((b.getD j (0, 0)).1 = loc)) b.length
def outK (b : List En) (at_ : Int) : Nat → List En
 | 0 => []
 | k + 1 => if (k : Int) = at_ then outK b at_ k else outK b at_ k ++ [b.getD k (0, 0)]
theorem outK_len (b : List En) (at_ : Int) : ∀ k, (outK b at_ k).length ≤ k
 | 0 => Nat.le_refl _
 | k + 1 => by
  have := outK_len b at_ k
  rw [outK]
  split
  ·omega
  ·rw [List.length_append, List.length_singleton]; omega
theorem outK_mem {b : List En} {at_ : Int} {y : En} : ∀ k, k ≤ b.length → y ∈ outK b at_ k → y ∈ b
 | 0, _, h => by simp [outK] at h
 | k + 1, hk, h => by
  rw [outK] at h
  split at h
  ·exact outK_mem k (by omega) h
  ·rcases List.mem_append.1 h with h | h
   ·exact outK_mem k (by omega) h
   ·rw [List.mem_singleton.1 h]; simp [List.getD, show k < b.length by omega]
theorem atK_in (n : Nat) (P : Nat → Bool) : ∀ d, d ≤ n → -1 ≤ atK n P d ∧ atK n P d < n
 | 0, _ => by rw [atK]; omega
 | d + 1, h => by
  have := atK_in n P d (by omega)
  rw [atK]; split <;> omega
theorem popI_in (b : List En) (model loc : Int) : -1 ≤ popI b model loc ∧ popI b model loc < b.length := by
 unfold popI
 split
 ·split <;> omega
 ·exact atK_in _ _ _ (Nat.le_refl _)
def popE (b : List En) (model loc : Int) : List En × En × Bool := (outK b (popI b model loc) b.length, if popI b model loc < 0 then (0, 0) else b.getD (popI b model loc).toNat (0, 0), decide (0 ≤ popI b model loc))
set_option maxRecDepth 100000 in
set_option maxHeartbeats 32000000 in
theorem pop2_ok (v : Value) (b : List En) (w : World) (h : EnsAt w v b) (hl : b.length ≤ 1000) :
  Calls Try.prog 67 #[v, .int .i64 2, .int .i64 (-1)] w fun r w' => ∃ rv, r = .returned (.tuple #[rv, .agg #[.int .i64 (popE b 2 (-1)).2.1.1, .int .i64 (popE b 2 (-1)).2.1.2], .bool (popE b 2 (-1)).2.2]) ∧ OwnE w.heap.size w' rv (popE b 2 (-1)).1 ∧ Below w.heap.size w w' := by
 have HP2 : Hid (popI b 2 (-1) ≤ 0) := Lib.hid (by unfold popI; rw [if_pos rfl]; split <;> omega)
 obtain ⟨i0, hi0, hz0, hz1, hz2⟩ := info_parts Try.info103
 have hbx := balloc w (.cells #[.int .i64 0, .int .i64 0] 103)
 have S0 := Lib.hid (BxC.start w #[.int .i64 0, .int .i64 0] 103)
 have h1 := h.below hbx
 obtain ⟨a, c, rfl, ha⟩ := h1
 have HA := Lib.hid ha
 have HIN := Lib.hid (popI_in b 2 (-1))
 have HL := Lib.hid (outK_len b (popI b 2 (-1)))
 have HS : Hid (∀ k, outK b (popI b 2 (-1)) (k + 1) = if (k : Int) = popI b 2 (-1) then outK b (popI b 2 (-1)) k else outK b (popI b 2 (-1)) k ++ [b.getD k (0, 0)]) := Lib.hid (fun k => rfl)
 have HZ : Hid (outK b (popI b 2 (-1)) 0 = []) := Lib.hid rfl
 obtain ⟨AV, hAV⟩ : ∃ AV : Nat → Int, ∀ j, AV j = if j < b.length then (j : Int) else -1 := ⟨_, fun _ => rfl⟩
 have HVS : Hid (∀ j, j < b.length → ((b.getD j (0, 0)).1 = -1 → AV j = (j : Int)) ∧ (¬ (b.getD j (0, 0)).1 = -1 → AV j = (j : Int))) := Lib.hid (fun j hj => by rw [hAV, if_pos hj]; exact ⟨fun _ => rfl, fun _ => rfl⟩)
 have HV0 : Hid (AV b.length = -1) := Lib.hid (by rw [hAV, if_neg (by omega)])
 have HVE : Hid (AV 0 = popI b 2 (-1)) := Lib.hid (by
  rw [hAV]
  unfold popI
  rw [if_pos rfl]
  by_cases h0 : b.length = 0
  ·rw [if_neg (by omega), if_pos h0]
  ·rw [if_pos (by omega), if_neg h0]; rfl)
 clear hAV
 unfold popE
 clear ha h hbx
 generalize popI b 2 (-1) = AT at *
 generalize outK b AT = OK at *
 simp only
 obtain ⟨RX, hRX⟩ : ∃ x, (if AT < 0 then ((0, 0) : En) else b.getD AT.toNat (0, 0)) = x := ⟨_, rfl⟩
 obtain ⟨RB, hRB⟩ : ∃ x, decide (0 ≤ AT) = x := ⟨_, rfl⟩
 rw [hRX, hRB]
 have HR1 := Lib.hid (fun (h : AT < 0) => hRX.symm.trans (if_pos h))
 have HR2 := Lib.hid (fun (h : ¬ AT < 0) => hRX.symm.trans (if_neg h))
 have HR3 := Lib.hid (fun (h : ¬ 0 ≤ AT) => hRB.symm.trans (decide_eq_false h))
 have HR4 := Lib.hid (fun (h : 0 ≤ AT) => hRB.symm.trans (decide_eq_true h))
 clear hRX hRB
 generalize hw1 : w.alloc (.cells #[.int .i64 0, .int .i64 0] 103) = w1 at *
 go_enter Try.func67, Try.ntmps67
 go_wp2_with fail
 clear hw1
 go_loopg [9, 10] (b.length) (fun fu av c wr => fu ≤ b.length ∧ av = .int .i64 (AV fu) ∧ c = .int .i64 ((fu : Int) - 1) ∧ Hid (Below w1.heap.size w1 wr))
 case atStart => exact ⟨Nat.le_refl _, by rw [HV0.out], rfl, Lib.hid (Below.refl _ _)⟩
 case round =>
  obtain ⟨hf, rfl, rfl, HB⟩ := hrel
  cases gk with
  | succ j =>
   have e0 : ((j + 1 : Nat) : Int) - 1 = (j : Int) := by omega
   rw [e0]
   obtain ⟨b1, o1, rfl, x1, -⟩ := HA.out j (by omega)
   have d1 := bkeep HB.out x1
   have z0 : 0 ≤ (j : Int) := by omega
   have z1 : (j : Int) < (b.length : Int) := by omega
   have hs := HVS.out j (by omega)
   clear HVS HV0 HVE
   generalize AV (j + 1) = av1 at *
   generalize (b.getD j (0, 0)).1 = x at *
   by_cases hx : x = (-1)
   ·have n1 : (x == (-1)) = true := by simp [hx]
    have E := Lib.hid (hs.1 hx)
    clear hs
    go_wp2_with fail
    go_roundg j
    case measure => omega
    case rel => exact ⟨by omega, by rw [E.out], by simp, HB⟩
   ·have n1 : (x == (-1)) = false := beq_false_of_ne hx
    have E := Lib.hid (hs.2 hx)
    clear hs
    go_wp2_with fail
    go_roundg j
    case measure => omega
    case rel => exact ⟨by omega, by rw [E.out], by simp, HB⟩
  | zero =>
   have e0 : ((0 : Nat) : Int) - 1 = -1 := by omega
   have hv := HVE.out
   rw [e0, hv]
   clear HVS HV0 HVE hv
   have hat0 := HP2.out
   have y1 : decide (0 < AT) = false := decide_eq_false (by omega)
   have hatl := HIN.out
   go_wp2_with fail
   go_loopg [11, 12] b.length (fun fu ov c wr2 => ∃ k : Nat, k + fu = b.length ∧ c = .int .i64 k ∧ Hid (OwnE w1.heap.size wr2 ov (OK k)) ∧ Hid (Below w1.heap.size w1 wr2))
   case atStart => exact ⟨0, by omega, rfl, Lib.hid (by rw [HZ.out]; exact OwnE.nil _ _), HB⟩
   case round =>
    clear HB
    obtain ⟨k, hk, rfl, HO, HB⟩ := hrel
    obtain ⟨oa, oc, rfl⟩ := ownv HO.out
    have hol := HL.out k
    by_cases hlt : k < b.length
    ·obtain ⟨b1, o1, rfl, x1, x2⟩ := HA.out k hlt
     have d1 := bkeep HB.out x1
     have d2 := bkeep HB.out x2
     have z1 : (k : Int) < (b.length : Int) := by omega
     have hs := HS.out k
     clear HS HZ HL
     by_cases hka : (k : Int) = AT
     ·rw [if_pos hka] at hs
      have E := Lib.hid hs
      have n1 : ((k : Int) != AT) = false := by simp [hka]
      clear hka
      clear hs
      go_wp2_with fail
      go_roundg (b.length - (k + 1))
      case measure => omega
      case rel => exact ⟨k + 1, by omega, by simp, Lib.hid (by rw [E.out]; exact HO.out), HB⟩
     ·rw [if_neg hka] at hs
      have E := Lib.hid hs
      have n1 : ((k : Int) != AT) = true := by simpa using hka
      clear hs
      generalize b.getD k (0, 0) = x at *
      generalize OK k = o at *
      go_wp2_with (at_builtin; refine wpList_append_lies (wr.alloc (.cells #[.int .i64 x.1, .int .i64 x.2] 103)) rfl (.tmp 59) (.tmp 64) 99 rfl w1.heap.size 103 i0 (.agg #[.int .i64 0, .int .i64 0]) 2 16 Try.underlying99 hi0 hz0 hz1 hz2 rfl (by decide) (.slice oa o.length oc) (o.length) _ rfl (World.ownsRow.alloc HO.out _) ⟨wr.heap.size, 0, none⟩ 1 1 [.int .i64 x.1, .int .i64 x.2] rfl rfl (World.news_of_block (heap_alloc_new _ _)) (by simp [Value.oneCell']) (by omega) (by unfold maxLen; omega) (by omega) (by have := HB.out.size; simp; omega) (wr.heap.size + 1) (by simp) ?_; intro g3 cap3 w3 hown3 hgr3 hor3 hlt3; have HO3 := Lib.hid hown3; have HB3 := Lib.hid (below_own HB.out HO.out hgr3); clear hown3 hgr3 hor3)
      go_roundg (b.length - (k + 1))
      case measure => omega
      case rel => exact ⟨k + 1, by omega, by simp, Lib.hid (by rw [E.out]; exact OwnE.snoc HO3.out rfl), HB3⟩
    ·have hkk : k = b.length := by omega
     subst hkk
     have HW1 := Lib.hid S0.out.below
     have S := Lib.hid (S0.out.more HB.out)
     have c0 := cell_of_block S.out.blk 0 (.int .i64 0) rfl
     have c1 := cell_of_block S.out.blk 1 (.int .i64 0) rfl
     have f0 := free_of_block S.out.blk 0
     have f1 := free_of_block S.out.blk 1
     by_cases hat : AT < 0
     ·have E1 := Lib.hid (HR1.out hat)
      have E2 := Lib.hid (HR3.out (by omega))
      clear HR1 HR2 HR3 HR4
      have hB : w.heap.size < w1.heap.size := (Array.getElem?_eq_some_iff.1 S0.out.blk).1
      have HO2 := Lib.hid (ownsRow_setCell_below (a := ⟨w.heap.size, 1, none⟩) (ownsRow_setCell_below (a := ⟨w.heap.size, 0, none⟩) HO.out hB (.int .i64 0)) hB (.int .i64 0))
      have HBF := Lib.hid ((Below.setCell (HW1.out.trans (HB.out.mono HW1.out.size)) (p := ⟨w.heap.size, 0, none⟩) (Nat.le_refl _) (.int .i64 0)).setCell (p := ⟨w.heap.size, 1, none⟩) (Nat.le_refl _) (.int .i64 0))
      have k2 := heap_setCell_block (i := 1) (v := .int .i64 0) (heap_setCell_block (i := 0) (v := .int .i64 0) S.out.blk)
      have g0 := cell_of_block k2 0 (.int .i64 0) rfl
      have g1 := cell_of_block k2 1 (.int .i64 0) rfl
      go_wp2_with fail
      refine bodyPost_ret (v := .tuple #[.slice oa (OK b.length).length oc, .agg #[.int .i64 0, .int .i64 0], .bool false]) (by simp [results, Try.results67, go_sem, g0, g1]) rfl ?_
      exact ⟨_, by rw [E1.out, E2.out], ownlow HO2.out (Nat.le_of_lt hB), HBF.out⟩
     ·have E1 := Lib.hid (HR2.out (by first | exact hat | omega))
      have E2 := Lib.hid (HR4.out (by omega))
      clear HR1 HR2 HR3 HR4
      obtain ⟨q, hq⟩ : ∃ q : Nat, AT = (q : Int) := ⟨AT.toNat, by omega⟩
      have hqb : q < b.length := by omega
      have zq : (q : Int) < (b.length : Int) := by omega
      obtain ⟨b1, o1, rfl, x1, x2⟩ := HA.out q hqb
      have d1 := bkeep HB.out x1
      have d2 := bkeep HB.out x2
      have hnq : ¬ ((q : Int) < 0) := by omega
      clear HS HZ HL HIN hatl
      subst hq
      rw [Int.toNat_natCast] at E1
      generalize b.getD q (0, 0) = x at *
      have hB : w.heap.size < w1.heap.size := (Array.getElem?_eq_some_iff.1 S0.out.blk).1
      have HO2 := Lib.hid (ownsRow_setCell_below (a := ⟨w.heap.size, 1, none⟩) (ownsRow_setCell_below (a := ⟨w.heap.size, 0, none⟩) HO.out hB (.int .i64 x.1)) hB (.int .i64 x.2))
      have HBF := Lib.hid ((Below.setCell (HW1.out.trans (HB.out.mono HW1.out.size)) (p := ⟨w.heap.size, 0, none⟩) (Nat.le_refl _) (.int .i64 x.1)).setCell (p := ⟨w.heap.size, 1, none⟩) (Nat.le_refl _) (.int .i64 x.2))
      have k2 := heap_setCell_block (i := 1) (v := .int .i64 x.2) (heap_setCell_block (i := 0) (v := .int .i64 x.1) S.out.blk)
      have g0 := cell_of_block k2 0 (.int .i64 x.1) rfl
      have g1 := cell_of_block k2 1 (.int .i64 x.2) rfl
      go_wp2_with fail
      go_region
      go_wp2_with fail
      refine bodyPost_ret (v := .tuple #[.slice oa (OK b.length).length oc, .agg #[.int .i64 x.1, .int .i64 x.2], .bool true]) (by simp [results, Try.results67, go_sem, g0, g1]) rfl ?_
      exact ⟨_, by rw [E1.out, E2.out], ownlow HO2.out (Nat.le_of_lt hB), HBF.out.drew⟩
set_option maxRecDepth 100000 in
set_option maxHeartbeats 32000000 in
theorem pop3_ok (v : Value) (b : List En) (loc : Int) (w : World) (h : EnsAt w v b) (hl : b.length ≤ 1000) :
  Calls Try.prog 67 #[v, .int .i64 3, .int .i64 loc] w fun r w' => ∃ rv, r = .returned (.tuple #[rv, .agg #[.int .i64 (popE b 3 loc).2.1.1, .int .i64 (popE b 3 loc).2.1.2], .bool (popE b 3 loc).2.2]) ∧ OwnE w.heap.size w' rv (popE b 3 loc).1 ∧ Below w.heap.size w w' := by
 obtain ⟨i0, hi0, hz0, hz1, hz2⟩ := info_parts Try.info103
 have hbx := balloc w (.cells #[.int .i64 0, .int .i64 0] 103)
 have S0 := Lib.hid (BxC.start w #[.int .i64 0, .int .i64 0] 103)
 have h1 := h.below hbx
 obtain ⟨a, c, rfl, ha⟩ := h1
 have HA := Lib.hid ha
 have HIN := Lib.hid (popI_in b 3 loc)
 have HL := Lib.hid (outK_len b (popI b 3 loc))
 have HS : Hid (∀ k, outK b (popI b 3 loc) (k + 1) = if (k : Int) = popI b 3 loc then outK b (popI b 3 loc) k else outK b (popI b 3 loc) k ++ [b.getD k (0, 0)]) := Lib.hid (fun k => rfl)
 have HZ : Hid (outK b (popI b 3 loc) 0 = []) := Lib.hid rfl
 have HVS : Hid (∀ j, j < b.length → ((b.getD j (0, 0)).1 = loc → atK b.length (fun j => decide ((b.getD j (0, 0)).1 = loc)) (b.length - j) = (j : Int)) ∧ (¬ (b.getD j (0, 0)).1 = loc → atK b.length (fun j => decide ((b.getD j (0, 0)).1 = loc)) (b.length - j) = atK b.length (fun j => decide ((b.getD j (0, 0)).1 = loc)) (b.length - (j + 1)))) := Lib.hid (fun j hj => by
  obtain ⟨d, hd⟩ : ∃ d, b.length - j = d + 1 := ⟨b.length - j - 1, by omega⟩
  have e : b.length - (d + 1) = j := by omega
  have e2 : b.length - (j + 1) = d := by omega
  rw [hd, e2]
  constructor
  ·intro hx; rw [atK, e, if_pos (decide_eq_true hx)]
  ·intro hx; rw [atK, e, if_neg (by simpa using hx)])
 obtain ⟨AV, hAV⟩ : ∃ AV : Nat → Int, ∀ j, AV j = atK b.length (fun j => decide ((b.getD j (0, 0)).1 = loc)) (b.length - j) := ⟨_, fun _ => rfl⟩
 simp only [← hAV] at HVS
 have HV0 : Hid (AV b.length = -1) := Lib.hid (by rw [hAV, Nat.sub_self]; rfl)
 have HVE : Hid (AV 0 = popI b 3 loc) := Lib.hid (by rw [hAV]; rfl)
 clear hAV
 unfold popE
 clear ha h hbx
 generalize popI b 3 loc = AT at *
 generalize outK b AT = OK at *
 simp only
 obtain ⟨RX, hRX⟩ : ∃ x, (if AT < 0 then ((0, 0) : En) else b.getD AT.toNat (0, 0)) = x := ⟨_, rfl⟩
 obtain ⟨RB, hRB⟩ : ∃ x, decide (0 ≤ AT) = x := ⟨_, rfl⟩
 rw [hRX, hRB]
 have HR1 := Lib.hid (fun (h : AT < 0) => hRX.symm.trans (if_pos h))
 have HR2 := Lib.hid (fun (h : ¬ AT < 0) => hRX.symm.trans (if_neg h))
 have HR3 := Lib.hid (fun (h : ¬ 0 ≤ AT) => hRB.symm.trans (decide_eq_false h))
 have HR4 := Lib.hid (fun (h : 0 ≤ AT) => hRB.symm.trans (decide_eq_true h))
 clear hRX hRB
 generalize hw1 : w.alloc (.cells #[.int .i64 0, .int .i64 0] 103) = w1 at *
 go_enter Try.func67, Try.ntmps67
 go_wp2_with fail
 clear hw1
 go_loopg [9, 10] (b.length) (fun fu av c wr => fu ≤ b.length ∧ av = .int .i64 (AV fu) ∧ c = .int .i64 ((fu : Int) - 1) ∧ Hid (Below w1.heap.size w1 wr))
 case atStart => exact ⟨Nat.le_refl _, by rw [HV0.out], rfl, Lib.hid (Below.refl _ _)⟩
 case round =>
  obtain ⟨hf, rfl, rfl, HB⟩ := hrel
  cases gk with
  | succ j =>
   have e0 : ((j + 1 : Nat) : Int) - 1 = (j : Int) := by omega
   rw [e0]
   obtain ⟨b1, o1, rfl, x1, -⟩ := HA.out j (by omega)
   have d1 := bkeep HB.out x1
   have z0 : 0 ≤ (j : Int) := by omega
   have z1 : (j : Int) < (b.length : Int) := by omega
   have hs := HVS.out j (by omega)
   clear HVS HV0 HVE
   generalize AV (j + 1) = av1 at *
   generalize (b.getD j (0, 0)).1 = x at *
   by_cases hx : x = loc
   ·have n1 : (x == loc) = true := by simp [hx]
    have E := Lib.hid (hs.1 hx)
    clear hs
    go_wp2_with fail
    go_roundg j
    case measure => omega
    case rel => exact ⟨by omega, by rw [E.out], by simp, HB⟩
   ·have n1 : (x == loc) = false := beq_false_of_ne hx
    have E := Lib.hid (hs.2 hx)
    clear hs
    go_wp2_with fail
    go_roundg j
    case measure => omega
    case rel => exact ⟨by omega, by rw [E.out], by simp, HB⟩
  | zero =>
   have e0 : ((0 : Nat) : Int) - 1 = -1 := by omega
   have hv := HVE.out
   rw [e0, hv]
   clear HVS HV0 HVE hv
   have hatl := HIN.out
   go_wp2_with fail
   go_loopg [11, 12] b.length (fun fu ov c wr2 => ∃ k : Nat, k + fu = b.length ∧ c = .int .i64 k ∧ Hid (OwnE w1.heap.size wr2 ov (OK k)) ∧ Hid (Below w1.heap.size w1 wr2))
   case atStart => exact ⟨0, by omega, rfl, Lib.hid (by rw [HZ.out]; exact OwnE.nil _ _), HB⟩
   case round =>
    clear HB
    obtain ⟨k, hk, rfl, HO, HB⟩ := hrel
    obtain ⟨oa, oc, rfl⟩ := ownv HO.out
    have hol := HL.out k
    by_cases hlt : k < b.length
    ·obtain ⟨b1, o1, rfl, x1, x2⟩ := HA.out k hlt
     have d1 := bkeep HB.out x1
     have d2 := bkeep HB.out x2
     have z1 : (k : Int) < (b.length : Int) := by omega
     have hs := HS.out k
     clear HS HZ HL
     by_cases hka : (k : Int) = AT
     ·rw [if_pos hka] at hs
      have E := Lib.hid hs
      have n1 : ((k : Int) != AT) = false := by simp [hka]
      clear hka
      clear hs
      go_wp2_with fail
      go_roundg (b.length - (k + 1))
      case measure => omega
      case rel => exact ⟨k + 1, by omega, by simp, Lib.hid (by rw [E.out]; exact HO.out), HB⟩
     ·rw [if_neg hka] at hs
      have E := Lib.hid hs
      have n1 : ((k : Int) != AT) = true := by simpa using hka
      clear hs
      generalize b.getD k (0, 0) = x at *
      generalize OK k = o at *
      go_wp2_with (at_builtin; refine wpList_append_lies (wr.alloc (.cells #[.int .i64 x.1, .int .i64 x.2] 103)) rfl (.tmp 59) (.tmp 64) 99 rfl w1.heap.size 103 i0 (.agg #[.int .i64 0, .int .i64 0]) 2 16 Try.underlying99 hi0 hz0 hz1 hz2 rfl (by decide) (.slice oa o.length oc) (o.length) _ rfl (World.ownsRow.alloc HO.out _) ⟨wr.heap.size, 0, none⟩ 1 1 [.int .i64 x.1, .int .i64 x.2] rfl rfl (World.news_of_block (heap_alloc_new _ _)) (by simp [Value.oneCell']) (by omega) (by unfold maxLen; omega) (by omega) (by have := HB.out.size; simp; omega) (wr.heap.size + 1) (by simp) ?_; intro g3 cap3 w3 hown3 hgr3 hor3 hlt3; have HO3 := Lib.hid hown3; have HB3 := Lib.hid (below_own HB.out HO.out hgr3); clear hown3 hgr3 hor3)
      go_roundg (b.length - (k + 1))
      case measure => omega
      case rel => exact ⟨k + 1, by omega, by simp, Lib.hid (by rw [E.out]; exact OwnE.snoc HO3.out rfl), HB3⟩
    ·have hkk : k = b.length := by omega
     subst hkk
     have HW1 := Lib.hid S0.out.below
     have S := Lib.hid (S0.out.more HB.out)
     have c0 := cell_of_block S.out.blk 0 (.int .i64 0) rfl
     have c1 := cell_of_block S.out.blk 1 (.int .i64 0) rfl
     have f0 := free_of_block S.out.blk 0
     have f1 := free_of_block S.out.blk 1
     by_cases hat : AT < 0
     ·have E1 := Lib.hid (HR1.out hat)
      have E2 := Lib.hid (HR3.out (by omega))
      clear HR1 HR2 HR3 HR4
      have hB : w.heap.size < w1.heap.size := (Array.getElem?_eq_some_iff.1 S0.out.blk).1
      have HO2 := Lib.hid (ownsRow_setCell_below (a := ⟨w.heap.size, 1, none⟩) (ownsRow_setCell_below (a := ⟨w.heap.size, 0, none⟩) HO.out hB (.int .i64 0)) hB (.int .i64 0))
      have HBF := Lib.hid ((Below.setCell (HW1.out.trans (HB.out.mono HW1.out.size)) (p := ⟨w.heap.size, 0, none⟩) (Nat.le_refl _) (.int .i64 0)).setCell (p := ⟨w.heap.size, 1, none⟩) (Nat.le_refl _) (.int .i64 0))
      have k2 := heap_setCell_block (i := 1) (v := .int .i64 0) (heap_setCell_block (i := 0) (v := .int .i64 0) S.out.blk)
      have g0 := cell_of_block k2 0 (.int .i64 0) rfl
      have g1 := cell_of_block k2 1 (.int .i64 0) rfl
      go_wp2_with fail
      refine bodyPost_ret (v := .tuple #[.slice oa (OK b.length).length oc, .agg #[.int .i64 0, .int .i64 0], .bool false]) (by simp [results, Try.results67, go_sem, g0, g1]) rfl ?_
      exact ⟨_, by rw [E1.out, E2.out], ownlow HO2.out (Nat.le_of_lt hB), HBF.out⟩
     ·have E1 := Lib.hid (HR2.out (by first | exact hat | omega))
      have E2 := Lib.hid (HR4.out (by omega))
      clear HR1 HR2 HR3 HR4
      obtain ⟨q, hq⟩ : ∃ q : Nat, AT = (q : Int) := ⟨AT.toNat, by omega⟩
      have hqb : q < b.length := by omega
      have zq : (q : Int) < (b.length : Int) := by omega
      obtain ⟨b1, o1, rfl, x1, x2⟩ := HA.out q hqb
      have d1 := bkeep HB.out x1
      have d2 := bkeep HB.out x2
      have hnq : ¬ ((q : Int) < 0) := by omega
      clear HS HZ HL HIN hatl
      subst hq
      rw [Int.toNat_natCast] at E1
      generalize b.getD q (0, 0) = x at *
      have hB : w.heap.size < w1.heap.size := (Array.getElem?_eq_some_iff.1 S0.out.blk).1
      have HO2 := Lib.hid (ownsRow_setCell_below (a := ⟨w.heap.size, 1, none⟩) (ownsRow_setCell_below (a := ⟨w.heap.size, 0, none⟩) HO.out hB (.int .i64 x.1)) hB (.int .i64 x.2))
      have HBF := Lib.hid ((Below.setCell (HW1.out.trans (HB.out.mono HW1.out.size)) (p := ⟨w.heap.size, 0, none⟩) (Nat.le_refl _) (.int .i64 x.1)).setCell (p := ⟨w.heap.size, 1, none⟩) (Nat.le_refl _) (.int .i64 x.2))
      have k2 := heap_setCell_block (i := 1) (v := .int .i64 x.2) (heap_setCell_block (i := 0) (v := .int .i64 x.1) S.out.blk)
      have g0 := cell_of_block k2 0 (.int .i64 x.1) rfl
      have g1 := cell_of_block k2 1 (.int .i64 x.2) rfl
      go_wp2_with fail
      go_region
      go_wp2_with fail
      refine bodyPost_ret (v := .tuple #[.slice oa (OK b.length).length oc, .agg #[.int .i64 x.1, .int .i64 x.2], .bool true]) (by simp [results, Try.results67, go_sem, g0, g1]) rfl ?_
      exact ⟨_, by rw [E1.out, E2.out], ownlow HO2.out (Nat.le_of_lt hB), HBF.out.drew⟩
end Go.Proofs.Ytlhpjfnfemebdaa
