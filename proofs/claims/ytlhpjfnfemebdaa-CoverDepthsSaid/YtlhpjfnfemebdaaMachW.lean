/-
  The document's Value: the walk.
-/
import Derived.Test.YtlhpjfnfemebdaaBuild
import Derived.Test.YtlhpjfnfemebdaaJRowsM
namespace Go.Proofs.Ytlhpjfnfemebdaa
open Go.RowKit
theorem own_capC {w : World} {base : Nat} {e : TypeId} {size n c : Nat} {a : Option Addr} {xs : List Value} (h : w.ownsRow base e size (.slice a n c) n xs) : n ≤ c ∧ c ≤ 9223372036854775807 := by
 rcases h.2 with ⟨e1, h0⟩ | ⟨g, cap, cur, e1, -, -, h1, h2, -⟩
 ·cases e1; omega
 ·cases e1; unfold maxLen at h2; omega
set_option maxRecDepth 100000 in
set_option maxHeartbeats 64000000 in
theorem value_ok (v ov : Value) (l : List Ed) (own : List Int) (mod : Int) (w : World) (h : EdgesAt w v l) (ho : IntsAt w ov own) (hl : l.length ≤ 1000000) (hol : own.length ≤ 1000000) (hm : 2 ≤ mod ∧ mod ≤ 16) (hown : allR own mod = true) :
  Calls Try.prog 83 #[v, .int .i64 mod, ov, .slice none 0 0, .slice none 0 0] w fun r w' => r = .returned (.tuple #[.int .i64 (valI mod own l), .bool (codeB (own.length : Int) l)]) ∧ Below w.heap.size w w' := by
 obtain ⟨i0, hi0, hz0, hz1, hz2⟩ := info_parts Try.info3
 have HAL := Lib.hid (fun (w' : World) (hb : Below w.heap.size w w') => (by have := all6_ok ov own mod w' (ho.below hb) hol; rwa [hown] at this : Calls Try.prog 56 #[ov, .int .i64 mod] w' fun e w2 => e = .returned (.bool true) ∧ Below w'.heap.size w' w2))
 have HAN := Lib.hid (fun (w' : World) => (by exact all6_ok (.slice none 0 0) [] mod w' (intsAt_nil w') (by simp) : Calls Try.prog 56 #[.slice none 0 0, .int .i64 mod] w' fun e w2 => e = .returned (.bool true) ∧ Below w'.heap.size w' w2))
 have HCO := Lib.hid (fun (w' : World) (hb : Below w.heap.size w w') => code_ok v l (own.length : Int) w' (h.below hb) hl)
 have HTR := Lib.hid truth_ok
 have HTW := Lib.hid two_ok
 obtain ⟨a, ac, rfl, ha⟩ := h
 have HA := Lib.hid ha
 obtain ⟨oa, oc, rfl, hoc⟩ := ho
 have HOC := Lib.hid hoc
 have HOW := Lib.hid hown
 clear ha hoc
 have nm : (mod == 0) = false := beq_false_of_ne (by omega)
 cases hc : codeB (own.length : Int) l
 ·have E : valI mod own l = 0 := by unfold valI; rw [hc]; rfl
  rw [E]
  rw [hc] at HCO
  clear E hc hown
  go_enter Try.func83, Try.ntmps83
  go_wp2_with (first
   | (go_at_call_of 56 (Value.slice oa own.length oc); refine (HAL.out _ (Below.refl _ _)).mono ?_; rintro e1 w1 ⟨rfl, hb1⟩; have B1 := Lib.hid hb1; clear hb1)
   | (go_at_call 56; refine (HAN.out _).mono ?_; rintro e2 w2 ⟨rfl, hb2⟩; have B2 := Lib.hid (B1.out.trans (hb2.mono B1.out.size)); clear hb2))
  go_loopg [12, 13] 0 (fun fu rv c wr => rv = .slice none 0 0 ∧ c = .int .i64 0 ∧ Hid (Below w.heap.size w wr))
  case atStart => exact ⟨rfl, rfl, B2⟩
  case round =>
   clear B1 B2
   obtain ⟨rfl, rfl, B3⟩ := hrel
   go_wp2_with (go_at_call 78; refine (HCO.out _ B3.out).mono ?_; rintro e4 w4 ⟨rfl, hb4⟩; have B4 := Lib.hid (B3.out.trans (hb4.mono B3.out.size)); clear hb4)
   refine bodyPost_ret (v := .tuple #[.int .i64 0, .bool false]) (by simp [results, Try.results83, go_sem]) rfl ?_
   exact ⟨rfl, B4.out⟩
 ·have E : valI mod own l = (evK mod own [] l).getD 0 0 := by unfold valI; rw [hc]; rfl
  rw [E]
  rw [hc] at HCO
  clear E
  have HOP := Lib.hid (fun k (hk : k < l.length) => code_ops hc hk)
  have HCS := Lib.hid (fun (s : List Int) k (h : EvOk mod own s l k) (hk : k < l.length) => h.cases hk (code_ops hc hk))
  have HNX := Lib.hid (fun (s : List Int) k (h : EvOk mod own s l k) (hk : k < l.length) => h.next hm.1 HOW.out hk (code_ops hc hk))
  have HST := Lib.hid (fun (s : List Int) k (hk : k < l.length) => evK_step (mod := mod) (own := own) (s := s) hk)
  have EV0 : Hid (EvOk mod own [] l 0) := Lib.hid (EvOk.start hc)
  obtain ⟨RES, hRES⟩ : ∃ z, (evK mod own [] l).getD 0 0 = z := ⟨_, rfl⟩
  have R0 : Hid (RES = (evK mod own [] (l.drop 0)).getD 0 0) := Lib.hid (by rw [List.drop_zero, hRES])
  rw [hRES]
  clear hRES hc hown
  go_enter Try.func83, Try.ntmps83
  go_wp2_with (first
   | (go_at_call_of 56 (Value.slice oa own.length oc); refine (HAL.out _ (Below.refl _ _)).mono ?_; rintro e1 w1 ⟨rfl, hb1⟩; have B1 := Lib.hid hb1; clear hb1)
   | (go_at_call 56; refine (HAN.out _).mono ?_; rintro e2 w2 ⟨rfl, hb2⟩; have B2 := Lib.hid (B1.out.trans (hb2.mono B1.out.size)); clear hb2))
  go_loopg [12, 13] 0 (fun fu rv c wr => rv = .slice none 0 0 ∧ c = .int .i64 0 ∧ Hid (Below w.heap.size w wr))
  case atStart => exact ⟨rfl, rfl, B2⟩
  case round =>
   clear B1 B2
   obtain ⟨rfl, rfl, B3⟩ := hrel
   go_wp2_with (go_at_call 78; refine (HCO.out _ B3.out).mono ?_; rintro e4 w4 ⟨rfl, hb4⟩; have B4 := Lib.hid (B3.out.trans (hb4.mono B3.out.size)); clear hb4)
   go_loopg [14, 15] l.length (fun fu sv c wr => ∃ (k : Nat) (s : List Int), k + fu = l.length ∧ c = .int .i64 k ∧ Hid (OwnI w4.heap.size wr sv s) ∧ s.length ≤ k ∧ Hid (EvOk mod own s l k) ∧ Hid (RES = (evK mod own s (l.drop k)).getD 0 0) ∧ Hid (Below w4.heap.size w4 wr))
   case atStart => exact ⟨0, [], by omega, rfl, Lib.hid (OwnI.nil _ _), by simp, EV0, R0, Lib.hid (Below.refl _ _)⟩
   case round =>
    clear EV0 R0
    obtain ⟨k, s, hk, rfl, HO, hsk, HE, HR, HB⟩ := hrel
    obtain ⟨sa, sc, rfl⟩ := ownv HO.out
    by_cases hlt : k < l.length
    ·have z1 : (k : Int) < (l.length : Int) := by omega
     obtain ⟨b1, o1, rfl, d1, d2, d3⟩ := HA.out k hlt
     have B5 := Lib.hid (B4.out.trans (HB.out.mono B4.out.size))
     have d1 := bkeep B5.out d1
     have d2 := bkeep B5.out d2
     have d3 := bkeep B5.out d3
     have CS := HCS.out s k HE.out hlt
     have HE2 := Lib.hid (HNX.out s k HE.out hlt)
     have HR2 := Lib.hid (HR.out.trans (by rw [HST.out s k hlt] : (evK mod own s (l.drop k)).getD 0 0 = _))
     have S1 := Lib.hid (evS_1 (mod := mod) (own := own) (s := s) (x := l.getD k (0, 0, 0)))
     have S2 := Lib.hid (evS_2 (mod := mod) (own := own) (s := s) (x := l.getD k (0, 0, 0)))
     have S5 := Lib.hid (evS_5 (mod := mod) (own := own) (s := s) (x := l.getD k (0, 0, 0)))
     have S6 := Lib.hid (evS_6 (mod := mod) (own := own) (s := s) (x := l.getD k (0, 0, 0)))
     have HSA := Lib.hid HE.out.all
     clear HCS HNX HST HOP HE HR
     generalize evS mod own s (l.getD k (0, 0, 0)) = s' at *
     generalize (l.getD k (0, 0, 0)).1 = x at *
     generalize (l.getD k (0, 0, 0)).2.1 = y at *
     generalize (l.getD k (0, 0, 0)).2.2 = z at *
     have HBA := Lib.hid (HB.out.trans ((balloc wr (.cells #[.int .i64 x, .int .i64 y, .int .i64 z] 83)).mono HB.out.size))
     rcases CS with ⟨h1, h2, h3⟩ | ⟨h1, h2, h3⟩ | ⟨h1, h2⟩ | ⟨h1, h2, h3⟩
     ·subst h1
      have E := Lib.hid (S1.out rfl)
      have ht : y.tmod mod = y % mod := Int.tmod_eq_emod_of_nonneg h2
      clear S1 S2 S5 S6
      go_wp2_with (at_builtin; refine wpList_append_lies ((wr.alloc (.cells #[.int .i64 1, .int .i64 y, .int .i64 z] 83)).alloc (.cells #[.int .i64 (y % mod)] 3)) rfl (.tmp 105) (.tmp 110) 22 rfl w4.heap.size 3 i0 (.int .i64 0) 1 8 Try.underlying22 hi0 hz0 hz1 hz2 rfl (by decide) (.slice sa s.length sc) s.length _ rfl ((World.ownsRow.alloc HO.out _).alloc _) ⟨wr.heap.size + 1, 0, none⟩ 1 1 [.int .i64 (y % mod)] rfl rfl (World.news_of_block (by simpa using heap_alloc_new (wr.alloc (.cells #[.int .i64 1, .int .i64 y, .int .i64 z] 83)) (.cells #[.int .i64 (y % mod)] 3))) (by simp [Value.oneCell']) (by omega) (by unfold maxLen; omega) (by omega) (by have := HB.out.size; simp; omega) (wr.heap.size + 2) (by simp) ?_; intro g3 cap3 w3 hown3 hgr3 hor3 hlt3; have HO3 := Lib.hid hown3; have HB4 := Lib.hid (below_own HBA.out (World.ownsRow.alloc HO.out _) hgr3); clear hown3 hgr3 hor3)
      go_roundg (l.length - (k + 1))
      case measure => omega
      case rel => exact ⟨k + 1, s', by omega, by simp, Lib.hid (by rw [E.out]; unfold OwnI; rw [List.length_append, List.map_append]; exact HO3.out), by rw [E.out, List.length_append]; simp; omega, HE2, HR2, HB4⟩
     ·subst h1
      have E := Lib.hid (S2.out rfl)
      obtain ⟨q, rfl⟩ : ∃ q : Nat, y = (q : Int) := ⟨y.toNat, by omega⟩
      have hq : q < own.length := by omega
      have zq : (q : Int) < (own.length : Int) := by omega
      obtain ⟨b2, o2, rfl, p1⟩ := HOC.out q hq
      have p1 := bkeep B5.out p1
      rw [Int.toNat_natCast] at E
      have p2 := bkeep (balloc wr (.cells #[.int .i64 2, .int .i64 (q : Nat), .int .i64 z] 83)) p1
      clear S1 S2 S5 S6
      generalize own.getD q 0 = a0 at *
      go_wp2_with (at_builtin; refine wpList_append_lies ((wr.alloc (.cells #[.int .i64 2, .int .i64 (q : Nat), .int .i64 z] 83)).alloc (.cells #[.int .i64 a0] 3)) rfl (.tmp 114) (.tmp 120) 22 rfl w4.heap.size 3 i0 (.int .i64 0) 1 8 Try.underlying22 hi0 hz0 hz1 hz2 rfl (by decide) (.slice sa s.length sc) s.length _ rfl ((World.ownsRow.alloc HO.out _).alloc _) ⟨wr.heap.size + 1, 0, none⟩ 1 1 [.int .i64 a0] rfl rfl (World.news_of_block (by simpa using heap_alloc_new (wr.alloc (.cells #[.int .i64 2, .int .i64 (q : Nat), .int .i64 z] 83)) (.cells #[.int .i64 a0] 3))) (by simp [Value.oneCell']) (by omega) (by unfold maxLen; omega) (by omega) (by have := HB.out.size; simp; omega) (wr.heap.size + 2) (by simp) ?_; intro g3 cap3 w3 hown3 hgr3 hor3 hlt3; have HO3 := Lib.hid hown3; have HB4 := Lib.hid (below_own HBA.out (World.ownsRow.alloc HO.out _) hgr3); clear hown3 hgr3 hor3)
      go_roundg (l.length - (k + 1))
      case measure => omega
      case rel => exact ⟨k + 1, s', by omega, by simp, Lib.hid (by rw [E.out]; unfold OwnI; rw [List.length_append, List.map_append]; exact HO3.out), by rw [E.out, List.length_append]; simp; omega, HE2, HR2, HB4⟩
     ·subst h1
      have E := Lib.hid (S5.out rfl)
      obtain ⟨m, hsm⟩ : ∃ m, s.length = m + 1 := ⟨s.length - 1, by omega⟩
      obtain ⟨g, cap, e3, hg1, hg2⟩ := OwnI.form HO.out (by omega)
      cases e3
      have HOA := Lib.hid (show OwnI w4.heap.size (wr.alloc (.cells #[.int .i64 5, .int .i64 y, .int .i64 z] 83)) (.slice (some ⟨g, 0, none⟩) s.length sc) s from World.ownsRow.alloc HO.out _)
      have p1 := HOA.out.cell (j := m) (by omega)
      rw [hsm, Nat.add_sub_cancel] at E
      have HSM := Lib.hid hsm
      have zm : (m : Int) < (m : Int) + 1 := by omega
      have hmk : (m : Int) ≤ 1000000 := by omega
      rw [hsm]
      have HSK := Lib.hid hsk
      clear S1 S2 S5 S6 hsm h2 hsk
      generalize hx0 : s.getD m 0 = x0 at *
      clear hx0
      go_wp2_with (go_at_call 89; refine (HTR.out _ _).mono ?_; rintro e5 w5 ⟨rfl, hb5⟩; have HO5 := Lib.hid (HOA.out.more hb5); have HB5 := Lib.hid (HBA.out.trans (hb5.mono HBA.out.size)); have cz := HO5.out.cell (j := m) (by have := HSM.out; omega); have fz := (HO5.out.set (j := m) (by have := HSM.out; omega) 0).2; clear hb5)
      go_roundg (l.length - (k + 1))
      case measure => omega
      case rel => exact ⟨k + 1, s', by omega, by simp, Lib.hid (by rw [E.out]; have := (HO5.out.set (j := m) (by have := HSM.out; omega) (truI (x0 == 0))).1; rw [HSM.out] at this; exact this), by rw [E.out, List.length_set]; have := HSK.out; omega, HE2, HR2, Lib.hid (HB5.out.setCell (p := ⟨g, m, none⟩) hg1 _)⟩
     ·have n1 : (x == 1) = false := beq_false_of_ne (by omega)
      have n2 : (x == 2) = false := beq_false_of_ne (by omega)
      have n3 : (x == 3) = false := beq_false_of_ne (by omega)
      have n4 : (x == 4) = false := beq_false_of_ne (by omega)
      have n5 : (x == 5) = false := beq_false_of_ne (by omega)
      have E := Lib.hid (S6.out h1)
      obtain ⟨m, hsm⟩ : ∃ m, s.length = m + 2 := ⟨s.length - 2, by omega⟩
      obtain ⟨g, cap, e3, hg1, hg2⟩ := OwnI.form HO.out (by omega)
      cases e3
      have HOA := Lib.hid (show OwnI w4.heap.size (wr.alloc (.cells #[.int .i64 x, .int .i64 y, .int .i64 z] 83)) (.slice (some ⟨g, 0, none⟩) s.length sc) s from World.ownsRow.alloc HO.out _)
      have p1 := HOA.out.cell (j := m) (by omega)
      have p2 := HOA.out.cell (j := m + 1) (by omega)
      have i1 := allR_get HSA.out (j := m) (by omega)
      have i2 := allR_get HSA.out (j := m + 1) (by omega)
      rw [show s.length - 2 = m by omega, show s.length - 1 = m + 1 by omega] at E
      have hcap := own_capC HO.out
      have HSM := Lib.hid hsm
      have c0 := cell_of_block (heap_alloc_new wr (.cells #[.int .i64 x, .int .i64 y, .int .i64 z] 83)) 0 (.int .i64 x) rfl
      rw [hsm]
      rw [hsm] at hcap
      have zm : (m : Int) < (m : Int) + 2 := by omega
      have zm1 : (m : Int) + 1 < (m : Int) + 2 := by omega
      have hmk : (m : Int) ≤ 1000000 := by omega
      have HW := Lib.hid (fun (w' : World) => HTW.out x (s.getD m 0) (s.getD (m + 1) 0) mod w' ⟨i1.1, by omega⟩ ⟨i2.1, by omega⟩ hm i2.2)
      have HSK := Lib.hid hsk
      clear S1 S2 S5 S6 hsm hsk i1 i2
      generalize s.getD m 0 = x0 at *
      generalize s.getD (m + 1) 0 = x1 at *
      go_wp2_with fail
      generalize hwA : wr.alloc (.cells #[.int .i64 x, .int .i64 y, .int .i64 z] 83) = wA at *
      have f0 : ∀ i : Sub wA, i.1.cell? ⟨wr.heap.size, 0, none⟩ = some (.int .i64 x) := fun i => i.cell c0
      have f1 : ∀ i : Sub wA, i.1.cell? ⟨g, m, none⟩ = some (.int .i64 x0) := fun i => i.cell p1
      have f2 : ∀ i : Sub wA, i.1.cell? ⟨g, m + 1, none⟩ = some (.int .i64 x1) := fun i => i.cell p2
      refine region_below (by kernel_rfl) (by kernel_rfl) ?_
      repeat (go_big_quiet_step ((go_at_call 90; exact Calls.sub_of (HW.out _))))
      refine wpQuiet_nil ?_
      intro w5 hb5
      have HO5 := Lib.hid (HOA.out.more hb5)
      have HB5 := Lib.hid (HBA.out.trans (hb5.mono HBA.out.size))
      have cz := HO5.out.cell (j := m) (by have := HSM.out; omega)
      have fz := (HO5.out.set (j := m) (by have := HSM.out; omega) 0).2
      clear hb5
      go_wp2_with fail
      go_roundg (l.length - (k + 1))
      case measure => omega
      case rel => exact ⟨k + 1, s', by omega, by simp, Lib.hid (by
       rw [E.out]
       have := (HO5.out.set (j := m) (by have := HSM.out; omega) (twoI x x0 x1 mod)).1
       rw [HSM.out] at this
       exact OwnI.pop (m := m + 1) this (by rw [List.length_set, HSM.out])), by rw [E.out, List.length_take, List.length_set]; have := HSK.out; omega, HE2, HR2, Lib.hid (HB5.out.setCell (p := ⟨g, m, none⟩) hg1 _)⟩
    ·have hkk : k = l.length := by omega
     subst hkk
     have hs1 := HE.out.len
     obtain ⟨g, cap, e3, hg1, hg2⟩ := OwnI.form HO.out (by omega)
     cases e3
     have p1 := HO.out.cell (j := 0) (by omega)
     have HR2 := Lib.hid (HR.out.trans (by rw [List.drop_length]; rfl : _ = s.getD 0 0))
     have B5 := Lib.hid (B4.out.trans (HB.out.mono B4.out.size))
     rw [hs1]
     clear hs1 hsk HE HR HO
     generalize s.getD 0 0 = x0 at *
     go_wp2_with fail
     refine bodyPost_ret (v := .tuple #[.int .i64 x0, .bool true]) (by simp [results, Try.results83, go_sem]) rfl ?_
     exact ⟨by rw [HR2.out], B5.out⟩
end Go.Proofs.Ytlhpjfnfemebdaa
