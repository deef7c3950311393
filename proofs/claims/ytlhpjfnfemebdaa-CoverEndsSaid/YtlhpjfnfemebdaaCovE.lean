/-
  Who can act where. (Written by gen_en.py.)
-/
import Derived.Test.YtlhpjfnfemebdaaJCovS
import Derived.Test.YtlhpjfnfemebdaaJCovD
import Derived.Test.YtlhpjfnfemebdaaJAnyRel
namespace Go.Proofs.Ytlhpjfnfemebdaa
open Go.RowKit
def enK (EN : Nat → Nat → Bool) (ag k : Nat) : List (List Bool) := tab k (fun i => tab ag (EN i))
def enS (u : PUn) (s : Sp) (model room : Int) : List (List Bool) := enK (fun i a => enA u (s.confs.getD i cf0) model room a) (agN u model) s.confs.length
theorem enK_len (EN : Nat → Nat → Bool) (ag k : Nat) : (enK EN ag k).length = k := tab_len _ _
set_option maxRecDepth 100000 in
set_option maxHeartbeats 64000000 in
theorem enabled15_ok (uv v : Value) (u : PUn) (s : Sp) (model room : Int) (w : World) (hu : UnV w uv u) (h : SpV w v s) (hR : rightU u = true) (hL : UnL u) (hn : s.confs.length ≤ 500) (hk : ∀ j, j < s.confs.length → CfOk u 1000 (s.confs.getD j cf0)) :
  Calls Try.prog 23 #[uv, v, .int .i64 model, .int .i64 room] w fun r w' => ∃ rv, r = .returned rv ∧ BRowsAt w' rv (enS u s model room) ∧ Below w.heap.size w w' := by
 obtain ⟨i0, hi0, hz0, hz1, hz2⟩ := info_parts Try.info4
 obtain ⟨i1, hi1, hy0, hy1, hy2⟩ := info_parts infoB39
 have hag := agN_le hR model
 have HA := Lib.hid (fun (w' : World) (hb : Below w.heap.size w w') => agents_ok uv u model w' (hu.below hb) hR hL)
 have HE := Lib.hid (fun (w' : World) (hb : Below w.heap.size w w') (i a : Nat) (cv : Value) (hc : CfV w' cv (s.confs.getD i cf0)) (hi : i < s.confs.length) (ha : a < agN u model) => enM_ok uv cv u (s.confs.getD i cf0) model room a w' (hu.below hb) hc hR hL (hk i hi) ha)
 obtain ⟨ia, ic, ga, gc, ka, kc, rfl, -⟩ := hu.var
 obtain ⟨vC, sa, sc, aa, ac, ta, tc, vP, vA, rfl, hC, -, -, -⟩ := h.var
 obtain ⟨ca, cc, rfl, hC⟩ := hC
 unfold enS
 obtain ⟨EN, hEN⟩ : ∃ EN : Nat → Nat → Bool, EN = fun i a => enA u (s.confs.getD i cf0) model room a := ⟨_, rfl⟩
 rw [← hEN]
 have HE2 : Hid (∀ (w' : World), Below w.heap.size w w' → ∀ (i a : Nat) (cv : Value), CfV w' cv (s.confs.getD i cf0) → i < s.confs.length → a < agN u model → Calls Try.prog 25 #[.agg #[.int .i64 u.mod, .slice ia u.init.length ic, .slice ga u.regs.length gc, .slice ka u.code.length kc], cv, .int .i64 model, .int .i64 room, .int .i64 (a : Nat)] w' fun r w2 => r = .returned (.bool (EN i a)) ∧ Below w'.heap.size w' w2) := Lib.hid (by rw [hEN]; exact HE.out)
 clear hEN HE hk h hR hL hu
 have HCC := Lib.hid hC
 clear hC
 generalize s.confs = cs at *
 obtain ⟨n, hnn⟩ : ∃ n, n = cs.length := ⟨_, rfl⟩
 rw [← hnn] at HE2 HCC hn
 generalize (buildG (cs.length : Int) s.ed).S.length = nS at *
 generalize (buildG (cs.length : Int) s.ed).A.length = nA at *
 generalize (buildG (cs.length : Int) s.ed).T.length = nT at *
 rw [← hnn]
 clear hnn
 generalize agN u model = ag at *
 have S0 := Lib.hid (Bx2.start w #[.int .i64 u.mod, .slice ia u.init.length ic, .slice ga u.regs.length gc, .slice ka u.code.length kc] 25 #[.slice ca n cc, .slice sa nS sc, .slice aa nA ac, .slice ta nT tc, vP, vA] 32)
 generalize hw2 : (w.alloc (.cells #[.int .i64 u.mod, .slice ia u.init.length ic, .slice ga u.regs.length gc, .slice ka u.code.length kc] 25)).alloc (.cells #[.slice ca n cc, .slice sa nS sc, .slice aa nA ac, .slice ta nT tc, vP, vA] 32) = w2 at *
 go_enter Try.func23, Try.ntmps23
 go_wp2_with fail
 clear hw2
 go_loopg [9, 10] n (fun fu ov c wr => ∃ (k : Nat) (vals : List Value), k + fu = n ∧ c = .int .i64 k ∧ Hid (BRM w2.heap.size (fun q => ov.ownBlock = some q) wr ov vals (enK EN ag k)) ∧ Hid (Below w2.heap.size w2 wr))
 case atStart => exact ⟨0, [], by omega, rfl, Lib.hid (BRM.nil _ _ _), Lib.hid (Below.refl _ _)⟩
 case round =>
  obtain ⟨k, vals, hk, rfl, M, HB⟩ := hrel
  obtain ⟨oa, oc, hov⟩ := ownv M.out.out
  rw [enK_len] at hov
  subst hov
  have S := Lib.hid (S0.out.more HB.out)
  have d0 := cell_of_block S.out.blk2 0 (.slice ca n cc) rfl
  by_cases hlt : k < n
  ·have z1 : (k : Int) < (n : Int) := by omega
   obtain ⟨b1, o1, xp, xr, xm, xb, rfl, x0, x1, x2, x3, hcf⟩ := HCC.out k hlt
   have HCF := Lib.hid (fun (w' : World) (hb : Below w.heap.size w w') => hcf.below hb)
   have HX := Lib.hid (And.intro x0 (And.intro x1 (And.intro x2 x3)))
   have HM0 : Hid (BRM w2.heap.size (fun q => (Value.slice oa k oc).ownBlock = some q ∨ (Value.slice none 0 0).ownBlock = some q) wr (.slice oa k oc) vals (enK EN ag k)) := Lib.hid (M.out.step (Frm.refl _ _) M.out.out fun q hq => by rcases hq with e | e; exact .inl e; cases e)
   clear hcf x0 x1 x2 x3 M S
   go_wp2_with fail
   clear d0
   go_loopg [11, 12] ag (fun fu rv c wr => ∃ (a : Nat), a + fu = ag ∧ c = .int .i64 a ∧ Hid (OwnT w2.heap.size wr rv (tab a (EN k))) ∧ Hid (BRM w2.heap.size (fun q => (Value.slice oa k oc).ownBlock = some q ∨ rv.ownBlock = some q) wr (.slice oa k oc) vals (enK EN ag k)) ∧ Hid (AP rv (.slice oa k oc)) ∧ Hid (Below w2.heap.size w2 wr))
   case atStart => exact ⟨0, by omega, rfl, Lib.hid (OwnT.nil _ _), HM0, Lib.hid (ap_nil _).symm, HB⟩
   case round =>
    clear HM0 HB
    obtain ⟨a, hka, rfl, O, M, HAP, HB⟩ := hrel
    obtain ⟨ra, rc, hrv⟩ := ownv O.out
    rw [tab_len] at hrv
    subst hrv
    have S := Lib.hid (S0.out.more HB.out)
    have a0 := cell_of_block S.out.blk1 0 (.int .i64 u.mod) rfl
    have a1 := cell_of_block S.out.blk1 1 (.slice ia u.init.length ic) rfl
    have a2 := cell_of_block S.out.blk1 2 (.slice ga u.regs.length gc) rfl
    have a3 := cell_of_block S.out.blk1 3 (.slice ka u.code.length kc) rfl
    by_cases hal : a < ag
    ·have z2 : (a : Int) < (ag : Int) := by omega
     go_wp2_with (first
      | (go_at_call 22; refine (HA.out _ S.out.below).mono ?_; rintro e1 w4 ⟨rfl, hb4⟩; have S4 := Lib.hid (S.out.more hb4); have O4 := Lib.hid (O.out.more hb4); have M4 := Lib.hid (M.out.more hb4); have HB4 := Lib.hid (HB.out.trans (hb4.mono HB.out.size)); clear hb4 S O M HB a0 a1 a2 a3; have a0 := cell_of_block S4.out.blk1 0 (.int .i64 u.mod) rfl; have a1 := cell_of_block S4.out.blk1 1 (.slice ia u.init.length ic) rfl; have a2 := cell_of_block S4.out.blk1 2 (.slice ga u.regs.length gc) rfl; have a3 := cell_of_block S4.out.blk1 3 (.slice ka u.code.length kc) rfl; have d0 := cell_of_block S4.out.blk2 0 (.slice (some ⟨b1, o1, none⟩) n cc) rfl; have x0 := bkeep S4.out.below HX.out.1; have x1 := bkeep S4.out.below HX.out.2.1; have x2 := bkeep S4.out.below HX.out.2.2.1; have x3 := bkeep S4.out.below HX.out.2.2.2))
     refine region_rel_tail 12 (fun q => match q with | 27 => u27 | 28 => u28 | 29 => u29 | 30 => u30 | 31 => u31 | 32 => u32 | 33 => u33 | 34 => u34 | 35 => u35 | 36 => u36 | 37 => u37 | 38 => u38 | _ => undef)
      (fun f => { tmps := #[.agg #[.int .i64 u.mod, .slice ia u.init.length ic, .slice ga u.regs.length gc, .slice ka u.code.length kc], .agg #[.slice (some ⟨b1, o1, none⟩) n cc, .slice sa nS sc, .slice aa nA ac, .slice ta nT tc, vP, vA], .int .i64 model, .int .i64 room, .pointer (some ⟨w.heap.size, 0, none⟩), .pointer (some ⟨w.heap.size + 1, 0, none⟩), undef, undef, .slice none 0 0, .slice oa k oc, .int .i64 (k : Nat), .slice ra a rc, .int .i64 (a : Nat), .int .i64 (k : Nat), .pointer (some ⟨w.heap.size + 1, 0, none⟩), .slice (some ⟨b1, o1, none⟩) n cc, .int .i64 (n : Nat), .bool true, u18, u19, .int .i64 (a : Nat), .agg #[.int .i64 u.mod, .slice ia u.init.length ic, .slice ga u.regs.length gc, .slice ka u.code.length kc], .int .i64 model, .int .i64 (ag : Nat), .bool true, u25, u26, f 27, f 28, f 29, f 30, f 31, f 32, f 33, f 34, f 35, f 36, f 37, f 38, u39, u40, u41, u42, u43, undef], defers := [] }) (fun j => j + 27)
      (oneRel w4.heap.size 11 4 (.bool (EN k a)) [(.slice ra a rc), (.agg #[.int .i64 u.mod, .slice ia u.init.length ic, .slice ga u.regs.length gc, .slice ka u.code.length kc]), (.pointer (some ⟨w.heap.size + 1, 0, none⟩)), (.slice (some ⟨b1, o1, none⟩) n cc), (.int .i64 (k : Nat)), (.pointer (some ⟨b1, o1 + k * 4, none⟩)), (.agg #[xp, xr, xm, xb]), (.int .i64 model), (.int .i64 room), (.int .i64 (a : Nat)), (.bool (EN k a))])
      rfl (by kernel_rfl) (by kernel_rfl) (by kernel_rfl) (by decide) (by kernel_rfl) (fun i u w w' hb h => oneRel_mono hb h) (by kernel_rfl) (by kernel_rfl) ?_ ?_ ?_
     ·intro j hj f v
      rcases j with _ | _ | _ | _ | _ | _ | _ | _ | _ | _ | _ | _ | j
      all_goals first | rfl | omega | (simp at hj; omega)
     ·refine ⟨?_, ?_, ?_, ?_, ?_, ?_, ?_, ?_, ?_, ?_, ?_, ?_, trivial⟩
      ·intro f w' hb hd K hK
       dsimp only
       go_simp
       exact hK (.slice ra a rc) w' (Below.refl _ _) rfl
      ·intro f w' hb hd K hK
       have e0 := bkeep hb a0
       have e1 := bkeep hb a1
       have e2 := bkeep hb a2
       have e3 := bkeep hb a3
       dsimp only
       go_simp
       exact hK (.agg #[.int .i64 u.mod, .slice ia u.init.length ic, .slice ga u.regs.length gc, .slice ka u.code.length kc]) w' (Below.refl _ _) rfl
      ·intro f w' hb hd K hK
       dsimp only
       go_simp
       exact hK (.pointer (some ⟨w.heap.size + 1, 0, none⟩)) w' (Below.refl _ _) rfl
      ·intro f w' hb hd K hK
       have h2 : f 29 = (.pointer (some ⟨w.heap.size + 1, 0, none⟩)) := hd 2 (by kernel_rfl)
       have e0 := bkeep hb d0
       dsimp only
       go_simp
       have q := hK (.slice (some ⟨b1, o1, none⟩) n cc) w' (Below.refl _ _) rfl
       simp only [h2] at q
       exact q
      ·intro f w' hb hd K hK
       dsimp only
       go_simp
       exact hK (.int .i64 (k : Nat)) w' (Below.refl _ _) rfl
      ·intro f w' hb hd K hK
       have h3 : f 30 = (.slice (some ⟨b1, o1, none⟩) n cc) := hd 3 (by kernel_rfl)
       have h4 : f 31 = (.int .i64 (k : Nat)) := hd 4 (by kernel_rfl)
       dsimp only
       go_simp
       have q := hK (.pointer (some ⟨b1, o1 + k * 4, none⟩)) w' (Below.refl _ _) rfl
       simp only [h3, h4] at q
       exact q
      ·intro f w' hb hd K hK
       have h5 : f 32 = (.pointer (some ⟨b1, o1 + k * 4, none⟩)) := hd 5 (by kernel_rfl)
       have e0 := bkeep hb x0
       have e1 := bkeep hb x1
       have e2 := bkeep hb x2
       have e3 := bkeep hb x3
       dsimp only
       go_simp
       have q := hK (.agg #[xp, xr, xm, xb]) w' (Below.refl _ _) rfl
       simp only [h5] at q
       exact q
      ·intro f w' hb hd K hK
       dsimp only
       go_simp
       exact hK (.int .i64 model) w' (Below.refl _ _) rfl
      ·intro f w' hb hd K hK
       dsimp only
       go_simp
       exact hK (.int .i64 room) w' (Below.refl _ _) rfl
      ·intro f w' hb hd K hK
       dsimp only
       go_simp
       exact hK (.int .i64 (a : Nat)) w' (Below.refl _ _) rfl
      ·intro f w' hb hd K hK
       have h1 : f 28 = (.agg #[.int .i64 u.mod, .slice ia u.init.length ic, .slice ga u.regs.length gc, .slice ka u.code.length kc]) := hd 1 (by kernel_rfl)
       have h6 : f 33 = (.agg #[xp, xr, xm, xb]) := hd 6 (by kernel_rfl)
       have h7 : f 34 = (.int .i64 model) := hd 7 (by kernel_rfl)
       have h8 : f 35 = (.int .i64 room) := hd 8 (by kernel_rfl)
       have h9 : f 36 = (.int .i64 (a : Nat)) := hd 9 (by kernel_rfl)
       have HBW : Hid (Below w.heap.size w w') := Lib.hid (S4.out.below.trans (((Below.refl _ w4).drew.trans hb).mono S4.out.below.size))
       have HO2 := Lib.hid (HE2.out w' HBW.out k a _ (HCF.out w' HBW.out) hlt hal)
       dsimp only
       go_simp
       go_wp2_with (go_at_call 25; refine HO2.out.mono ?_; rintro e w3 ⟨rfl, hb3⟩)
       have q := hK (.bool (EN k a)) w3 hb3 rfl
       simp only [h1, h6, h7, h8, h9] at q
       exact q
      ·intro f w' hb hd K hK
       have h10 : f 37 = (.bool (EN k a)) := hd 10 (by kernel_rfl)
       have hsz : w4.heap.size ≤ w'.heap.size := hb.size
       dsimp only
       go_simp
       have q := hK _ _ (balloc w' _) (oneRel_new (t := 4) (x := .bool (EN k a)) (vs := [(.slice ra a rc), (.agg #[.int .i64 u.mod, .slice ia u.init.length ic, .slice ga u.regs.length gc, .slice ka u.code.length kc]), (.pointer (some ⟨w.heap.size + 1, 0, none⟩)), (.slice (some ⟨b1, o1, none⟩) n cc), (.int .i64 (k : Nat)), (.pointer (some ⟨b1, o1 + k * 4, none⟩)), (.agg #[xp, xr, xm, xb]), (.int .i64 model), (.int .i64 room), (.int .i64 (a : Nat)), (.bool (EN k a))]) hsz)
       simp only [h10] at q
       exact q
     intro f w5 hb5 hr
     have h27 : f 27 = (.slice ra a rc) := hr 0 (by decide)
     obtain ⟨b6, h38, -, hbk⟩ : ∃ b, f 38 = .slice (some ⟨b, 0, none⟩) 1 1 ∧ w4.heap.size ≤ b ∧ w5.heap[b]? = some (.cells #[.bool (EN k a)] 4 (0, 0)) := hr 11 (by decide)
     clear hr
     simp only [h27, h38, List.drop_succ_cons, List.drop_zero]
     generalize f 28 = q28
     generalize f 29 = q29
     generalize f 30 = q30
     generalize f 31 = q31
     generalize f 32 = q32
     generalize f 33 = q33
     generalize f 34 = q34
     generalize f 35 = q35
     generalize f 36 = q36
     generalize f 37 = q37
     have HN : Hid (tab (a + 1) (EN k) = tab a (EN k) ++ [EN k a]) := Lib.hid (tab_snoc _ _)
     have O5 := Lib.hid (O4.out.more hb5)
     have M5 := Lib.hid (M4.out.more hb5)
     have HB5 : Hid (Below w2.heap.size w2 w5) := Lib.hid (HB4.out.trans (hb5.mono HB4.out.size))
     have HBK := Lib.hid hbk
     have HOW : Hid (w5.ownsRow w2.heap.size 4 1 (.slice ra a rc) a ((tab a (EN k)).map Value.bool)) := Lib.hid (by have := O5.out; unfold OwnT at this; rwa [tab_len] at this)
     clear hbk hb5 O4 M4 HB4 S4 a0 a1 a2 a3 d0 x0 x1 x2 x3
     generalize EN k a = ex at *
     go_wp2_with (at_builtin; refine wpList_append_lies w5 rfl (.tmp 27) (.tmp 38) 39 rfl w2.heap.size 4 i0 (.bool false) 1 1 Try.underlying39 hi0 hz0 hz1 hz2 rfl (by decide) (.slice ra a rc) a _ rfl HOW.out ⟨b6, 0, none⟩ 1 1 [.bool ex] rfl rfl (World.news_of_block HBK.out) (by simp [Value.oneCell']) (by omega) (by unfold maxLen; omega) (by omega) (by have := HB5.out.size; omega) w5.heap.size rfl ?_; intro g6 cap6 w6 hown6 hgr6 hor6 hlt6; have O6 : Hid (OwnT w2.heap.size w6 (.slice (some ⟨g6, 0, none⟩) (a + 1) cap6) (tab (a + 1) (EN k))) := Lib.hid (by unfold OwnT; rw [HN.out, List.length_append, List.map_append, tab_len]; exact hown6); have HOR := Lib.hid (own_hor (N := w5.heap.size) (n := a + 1) (cap := cap6) hor6 (by omega)); have M6 := Lib.hid (M5.out.step (F' := fun q => (Value.slice oa k oc).ownBlock = some q ∨ (Value.slice (some ⟨g6, 0, none⟩) (a + 1) cap6).ownBlock = some q) (frm_grow hgr6 (fun q e => .inr e)) (keptG M5.out.out hgr6 HAP.out.symm) (fun q hq => by rcases hq with e | e; exact .inl (.inl e); exact (HOR.out q e).imp .inr id)); have HAP6 : Hid (AP (.slice (some ⟨g6, 0, none⟩) (a + 1) cap6) (.slice oa k oc)) := Lib.hid (fun q e1 e2 => by rcases HOR.out q e1 with e | e; exact HAP.out q e e2; have := (World.ownsRow.lt M5.out.out q e2).2; omega); have HB6 := Lib.hid (HB5.out.grown hgr6 HB5.out.size (fun q e => (World.ownsRow.lt O5.out q e).1)); clear hown6 hgr6 hor6 hlt6 HOR)
     go_roundg (ag - (a + 1))
     case measure => omega
     case rel => exact ⟨a + 1, by omega, by simp, O6, M6, HAP6, HB6⟩
    ·obtain rfl : a = ag := by omega
     have z2 : ¬ (a : Int) < (a : Int) := by omega
     have HN : Hid (enK EN a (k + 1) = enK EN a k ++ [tab a (EN k)]) := Lib.hid (by unfold enK; rw [tab_snoc])
     go_wp2_with (first
      | (at_builtin; refine wpList_append_lies (w4.alloc (.cells #[.slice ra a rc] 39)) rfl (.tmp 40) (.tmp 42) 36 rfl w2.heap.size 39 i1 (.slice none 0 0) 1 24 Try.underlying36 hi1 hy0 hy1 hy2 rfl (by decide) (.slice oa k oc) k vals rfl (World.ownsRow.alloc (by have := M4.out.out; rwa [enK_len] at this) _) ⟨w4.heap.size, 0, none⟩ 1 1 [.slice ra a rc] rfl rfl (World.news_of_block (heap_alloc_new _ _)) (by simp [Value.oneCell']) (by omega) (by unfold maxLen; omega) (by omega) (by have := HB4.out.size; simp only [alloc_size]; omega) (w4.heap.size + 1) (by simp) ?_; intro g7 cap7 w7 hown7 hgr7 hor7 hlt7; have HB7 := Lib.hid ((HB4.out.alloc HB4.out.size (.cells #[.slice ra a rc] 39)).grown hgr7 (by have := HB4.out.size; simp only [alloc_size]; omega) (fun q e => (World.ownsRow.lt M4.out.out q e).1)); have M7 : Hid (BRM w2.heap.size (fun q => (Value.slice (some ⟨g7, 0, none⟩) (k + 1) cap7).ownBlock = some q) w7 (.slice (some ⟨g7, 0, none⟩) (k + 1) cap7) (vals ++ [.slice ra a rc]) (enK EN a (k + 1))) := Lib.hid (by rw [HN.out]; exact (M4.out.more (balloc w4 (.cells #[.slice ra a rc] 39))).push (O4.out.more (balloc w4 (.cells #[.slice ra a rc] 39))) HAP.out hgr7 (by rw [enK_len]; exact hown7) (own_hor (n := k + 1) (cap := cap7) hor7 (by simp only [alloc_size]; omega))); clear hown7 hgr7 hor7 hlt7)
      | (go_at_call 22; refine (HA.out _ S.out.below).mono ?_; rintro e1 w4 ⟨rfl, hb4⟩; have O4 := Lib.hid (O.out.more hb4); have M4 := Lib.hid (M.out.more hb4); have HB4 := Lib.hid (HB.out.trans (hb4.mono HB.out.size)); clear hb4 S O M HB a0 a1 a2 a3))
     go_roundg (n - (k + 1))
     case measure => omega
     case rel => exact ⟨k + 1, _, by omega, by simp, M7, HB7⟩
  ·obtain rfl : k = n := by omega
   have z1 : ¬ (k : Int) < (k : Int) := by omega
   go_wp2_with fail
   go_ret
   exact ⟨_, rfl, M.out.rows, S.out.below⟩
end Go.Proofs.Ytlhpjfnfemebdaa
