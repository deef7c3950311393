/-
  How often agents act: the program's. How often agents act: the document's; numbers of agents that can't be. How far configurations are: the program's search in breadth. How many are how far: the program's and the document's.
-/
import Derived.Lib.SliceRun
import Derived.Test.YtlhpjfnfemebdaaJCovP
import Derived.Test.YtlhpjfnfemebdaaJMachT
import Derived.Test.YtlhpjfnfemebdaaOutN
import Derived.Test.YtlhpjfnfemebdaaActB
namespace Go.Proofs.Ytlhpjfnfemebdaa
open Go.RowKit
def actL (l : List Ed) (A : Nat) : List Int := tab A (fun a => (l.countP (fun e => decide (e.2.1 = (a : Int))) : Int))
theorem Bx2.setCells {w : World} {c d : Array Value} {t r : TypeId} : ∀ (vs : List Value) (o : Nat) (wr : World), Bx2 w wr c t d r → (∀ i, i < vs.length → d[o + i]? = vs[i]?) → Bx2 w (wr.setCells (w.heap.size + 1) o vs) c t d r
 | [], _, _, h, _ => h
 | v :: vs, o, wr, h, hd => by
  have h0 : d[o]? = some v := by simpa using hd 0 (by simp)
  have hs := h.set2 o v
  have e : d.setIfInBounds o v = d := by
   apply Array.ext_getElem?
   intro j
   rw [Array.getElem?_setIfInBounds]
   split
   ·rename_i e
    subst e
    split
    ·exact h0.symm
    ·rename_i hn
     rw [Array.getElem?_eq_none (by omega)] at h0
     cases h0
   ·rfl
  rw [e] at hs
  exact Bx2.setCells vs (o + 1) _ hs fun i hi => by
   have := hd (i + 1) (by simpa using hi)
   rw [List.getElem?_cons_succ] at this
   rw [← this]; congr 1; omega
theorem ints_anyblock {w : World} {b n : Nat} {xs ys : List Int} {t : TypeId} {fr : Nat × Nat} (h : w.heap[b]? = some (.cells (ints xs) t fr)) (hn : ys.length = n) (hl : n ≤ xs.length) (he : ∀ j, j < n → xs.getD j 0 = ys.getD j 0) (cap : Nat) : IntsAt w (.slice (some ⟨b, 0, none⟩) n cap) ys := by
 subst hn
 exact ⟨_, cap, rfl, fun j hj => ⟨b, 0, rfl, by rw [← he j hj]; exact cell_of_block h _ _ (by rw [Nat.zero_add]; exact ints_get xs j (by omega))⟩⟩
def actK (l : List Ed) (A k : Nat) : List Int := tab 100 (fun a => if a < A then ((l.take k).countP (fun e => decide (e.2.1 = (a : Int))) : Int) else 0)
theorem take_count {l : List Ed} {k a : Nat} (hk : k < l.length) : (l.take (k + 1)).countP (fun e => decide (e.2.1 = (a : Int))) = (l.take k).countP (fun e => decide (e.2.1 = (a : Int))) + if (l.getD k (0, 0, 0)).2.1 = (a : Int) then 1 else 0 := by
 rw [take_succ_getD (d := (0, 0, 0)) hk, List.countP_append, List.countP_cons, List.countP_nil]
 simp
theorem actK_hit {l : List Ed} {A k a : Nat} (hk : k < l.length) (he : (l.getD k (0, 0, 0)).2.1 = (a : Int)) (ha : a < A) (h1 : a < 100) : (actK l A k).set a ((actK l A k).getD a 0 + 1) = actK l A (k + 1) := by
 have hv : (actK l A k).getD a 0 = ((l.take k).countP (fun e => decide (e.2.1 = (a : Int))) : Int) := by unfold actK; rw [tab_get _ _ _ _ h1, if_pos ha]
 rw [hv]
 unfold actK
 refine tab_set _ _ _ _ _ (fun _ => ?_) (fun x _ hx => ?_)
 ·rw [if_pos ha, take_count hk, if_pos he]; omega
 ·by_cases hxA : x < A
  ·rw [if_pos hxA, if_pos hxA, take_count hk, if_neg (fun e => hx (by omega)), Nat.add_zero]
  ·rw [if_neg hxA, if_neg hxA]
theorem tab_congrc {α : Type} (m : Nat) (f g : Nat → α) (h : ∀ j, j < m → f j = g j) : tab m f = tab m g := by
 unfold tab; apply List.map_congr_left; intro a ha; exact h a (List.mem_range.1 ha)
theorem actK_miss {l : List Ed} {A k a : Nat} (hk : k < l.length) (he : (l.getD k (0, 0, 0)).2.1 = (a : Int)) (ha : ¬ a < A) : actK l A (k + 1) = actK l A k := by
 unfold actK
 refine tab_congrc _ _ _ fun x _ => ?_
 by_cases hx : x < A
 ·rw [if_pos hx, if_pos hx, take_count hk, if_neg (fun e => by omega), Nat.add_zero]
 ·rw [if_neg hx, if_neg hx]
theorem actK_le (l : List Ed) (A k a : Nat) : 0 ≤ (actK l A k).getD a 0 ∧ (actK l A k).getD a 0 ≤ (l.length : Int) := by
 by_cases h : a < 100
 ·unfold actK
  rw [tab_get _ _ _ _ h]
  split
  ·have := List.countP_le_length (p := fun e : Ed => decide (e.2.1 = (a : Int))) (l := l.take k)
   rw [List.length_take] at this
   omega
  ·omega
 ·rw [List.getD_eq_getElem?_getD, List.getElem?_eq_none (by unfold actK; rw [tab_len]; omega)]
  simp
theorem actK_end (l : List Ed) (A : Nat) (hA : A ≤ 100) : ∀ j, j < A → (actK l A l.length).getD j 0 = (actL l A).getD j 0 := fun j hj => by
 unfold actK actL
 rw [tab_get _ _ _ _ (by omega), tab_get _ _ _ _ hj, if_pos hj, List.take_length]
theorem zeros67 : Try.zeroCells67 = ints (List.replicate 100 0) := by
 rw [ints_replicate]
 kernel_rfl
set_option maxRecDepth 100000 in
set_option maxHeartbeats 32000000 in
theorem acting30_ok (v : Value) (s : Sp) (A : Nat) (w : World) (h : SpV w v s) (hok : buildOk (s.confs.length : Int) s.ed = true) (hag : ∀ e ∈ s.ed, e.2.1 < 100) (hA : A ≤ 100) :
  Calls Try.prog 17 #[v, .int .i64 (A : Nat)] w fun r w' => ∃ rv, r = .returned rv ∧ IntsAt w' rv (actL (allL (buildG (s.confs.length : Int) s.ed)) A) ∧ Below w.heap.size w w' := by
 obtain ⟨i0, hi0, hz0, hz1, hz2⟩ := info_parts Try.info3
 obtain ⟨vC, sa, sc, aa, ac, ta, tc, vP, vA, rfl, hC, hG, -, -⟩ := h.var
 obtain ⟨ca, cc, rfl, -⟩ := hC
 obtain ⟨hRt, -, hmem, -⟩ := sp_right hok
 have hlen : (allL (buildG (s.confs.length : Int) s.ed)).length ≤ 1000000 := by rw [allL_len hRt]; exact hG.sT
 have HAL := Lib.hid (fun (w' : World) (hb : Below w.heap.size w w') => all_new _ _ w' (hG.below hb) hRt)
 have hal : ∀ e ∈ allL (buildG (s.confs.length : Int) s.ed), 0 ≤ e.2.1 ∧ e.2.1 < 100 := fun e he => ⟨(buildOk_mem hok).2 e ((hmem e).1 he) |>.2.2.2.2, hag e ((hmem e).1 he)⟩
 have HED := Lib.hid hal
 clear h hG hok hmem hRt hag hal
 generalize allL (buildG (s.confs.length : Int) s.ed) = l at *
 generalize (buildG (s.confs.length : Int) s.ed).S.length = nS at *
 generalize (buildG (s.confs.length : Int) s.ed).A.length = nA at *
 generalize (buildG (s.confs.length : Int) s.ed).T.length = nT at *
 generalize s.confs.length = n at *
 have hs2 := Bx2.start w #[.slice ca n cc, .slice sa nS sc, .slice aa nA ac, .slice ta nT tc, vP, vA] 32 Try.zeroCells67 67
 rw [zeros67] at hs2
 obtain ⟨w2, hw2⟩ : ∃ x, x = (w.alloc (.cells #[.slice ca n cc, .slice sa nS sc, .slice aa nA ac, .slice ta nT tc, vP, vA] 32)).alloc (.cells (ints (List.replicate 100 0)) 67) := ⟨_, rfl⟩
 rw [← hw2] at hs2
 obtain ⟨wc, hwc⟩ : ∃ x, x = w2.setCells (w.heap.size + 1) 0 (List.replicate 100 (.int .i64 0)) := ⟨_, rfl⟩
 have hcl : ∀ ty, (Builtin.clear_ #[22] ty #[.slice (some ⟨w.heap.size + 1, 0, none⟩) 100 100]).run Try.prog w2 = .ok (.tuple #[]) wc := fun ty => by
  rw [hwc]
  exact Lib.run_clear_slice w2 22 3 ty (.int .i64 0) Try.underlying22 zero3 rfl rfl (w.heap.size + 1) 0 100 100 (by omega) (fun j hj => by rw [cell_of_block hs2.blk2 (0 + j) (.int .i64 0) (by rw [Nat.zero_add, ints_get _ _ (by rw [List.length_replicate]; exact hj), List.getD_eq_getElem?_getD, List.getElem?_replicate, if_pos hj]; rfl)]; rfl) (fun j hj => free_of_block hs2.blk2 _)
 rw [hw2, ← zeros67] at hcl
 have SC : Hid (Bx2 w wc #[.slice ca n cc, .slice sa nS sc, .slice aa nA ac, .slice ta nT tc, vP, vA] 32 (ints (actK l A 0)) 67) := Lib.hid (by
  have h0 : ints (actK l A 0) = ints (List.replicate 100 0) := by
   congr 1
   unfold actK
   apply List.ext_getElem?
   intro i
   rw [List.getElem?_replicate]
   unfold tab
   rw [List.getElem?_map]
   by_cases hi : i < 100
   ·rw [List.getElem?_range hi, if_pos hi]; simp
   ·rw [List.getElem?_eq_none (by simp; omega), if_neg hi]; rfl
  rw [h0, hwc]
  refine Bx2.setCells _ _ _ hs2 fun i hi => ?_
  rw [ints_replicate, Nat.zero_add]
  simp)
 clear hs2 hwc hw2
 have z0 : ¬ (A : Int) < 0 := by omega
 have z1 : ¬ (100 : Int) < (A : Int) := by omega
 have c1 := cell_of_block SC.out.blk1 1 (.slice sa nS sc) rfl
 have c2 := cell_of_block SC.out.blk1 2 (.slice aa nA ac) rfl
 have c3 := cell_of_block SC.out.blk1 3 (.slice ta nT tc) rfl
 go_enter Try.func17, Try.ntmps17
 go_wp2_with (first
  | (go_at_call 29; refine (HAL.out _ SC.out.below).mono ?_; rintro e1 w4 ⟨ev, rfl, hE, hb4⟩; obtain ⟨ea, ec, rfl⟩ := ownv hE; have S4 := Lib.hid (SC.out.more hb4); have ES4 := Lib.hid (eds_st (F := fun q => q = w.heap.size + 1) hE (fun q hq => by have := SC.out.size; omega)); clear hE hb4 SC c1 c2 c3))
 clear hcl
 go_loopg [19] l.length (fun fu c wr => ∃ (k : Nat), k + fu = l.length ∧ c = .int .i64 k ∧ Hid (St (fun q => q = w.heap.size + 1) (fun w => EdgesAt w (.slice ea l.length ec) l) wr) ∧ Hid (Bx2 w wr #[.slice ca n cc, .slice sa nS sc, .slice aa nA ac, .slice ta nT tc, vP, vA] 32 (ints (actK l A k)) 67))
 case atStart => exact ⟨0, by omega, rfl, ES4, S4⟩
 case round =>
  clear ES4 S4
  obtain ⟨k, hk, rfl, ES, S⟩ := hrel
  by_cases hkl : k < l.length
  ·obtain ⟨ea', ec', e0, hec⟩ := ES.out.now
   cases e0
   obtain ⟨b2, o2, rfl, y1, y2, y3⟩ := hec k hkl
   have z5 : (k : Int) < (l.length : Int) := by omega
   obtain ⟨h1, h2⟩ := HED.out (l.getD k (0, 0, 0)) (by simp [List.getD, hkl])
   obtain ⟨a, ha⟩ : ∃ a : Nat, (l.getD k (0, 0, 0)).2.1 = (a : Int) := ⟨(l.getD k (0, 0, 0)).2.1.toNat, by omega⟩
   have hz := actK_le l A k a
   have ha1 : a < 100 := by omega
   have HH := Lib.hid (fun h => actK_hit (A := A) hkl ha h ha1)
   have HM := Lib.hid (fun h => actK_miss (A := A) hkl ha h)
   rw [ha] at y2
   clear hec ha h1 h2
   generalize (l.getD k (0, 0, 0)).1 = f at *
   generalize (l.getD k (0, 0, 0)).2.2 = t at *
   have SW := Lib.hid (S.out.more (balloc wr (.cells #[.int .i64 f, .int .i64 a, .int .i64 t] 65)))
   have xa := cell_of_block SW.out.blk2 a _ (ints_get (actK l A k) a (by unfold actK; rw [tab_len]; exact ha1))
   have xz := free_of_block SW.out.blk2 a
   have EW := Lib.hid (ES.out.more (balloc wr (.cells #[.int .i64 f, .int .i64 a, .int .i64 t] 65)))
   by_cases hlt : a < A
   ·have HN := Lib.hid (HH.out hlt)
    have z2 : (a : Int) < (A : Int) := by omega
    have z3 : (a : Int) < 100 := by omega
    have SN := Lib.hid (SW.out.set2 a (.int .i64 ((actK l A k).getD a 0 + 1)))
    rw [ints_set, HN.out] at SN
    have EN := Lib.hid (EW.out.step (F' := fun q => q = w.heap.size + 1) ((Frm.refl (fun q => q = w.heap.size + 1) _).setCell (p := ⟨w.heap.size + 1, a, none⟩) (fun _ => rfl) (.int .i64 ((actK l A k).getD a 0 + 1))) (fun q hq => .inl hq))
    have e1 : IntKind.i64.wrap ((actK l A k).getD a 0 + 1) = (actK l A k).getD a 0 + 1 := IntWalk.i64_in _ (by omega)
    clear HH HM HN S ES hz
    generalize (actK l A k).getD a 0 = x at *
    go_wp2_with fail
    go_roundg (l.length - (k + 1))
    case measure => omega
    case rel => exact ⟨k + 1, by omega, by simp, EN, SN⟩
   ·have HN := Lib.hid (HM.out hlt)
    have z2 : ¬ (a : Int) < (A : Int) := by omega
    rw [← HN.out] at SW
    clear HH HM S ES hz xa
    go_wp2_with fail
    go_roundg (l.length - (k + 1))
    case measure => omega
    case rel => exact ⟨k + 1, by omega, by simp, EW, SW⟩
  ·obtain rfl : k = l.length := by omega
   have z5 : ¬ (l.length : Int) < (l.length : Int) := by omega
   have HI : Hid (IntsAt wr (.slice (some ⟨w.heap.size + 1, 0, none⟩) A 100) (actL l A)) := Lib.hid (ints_anyblock S.out.blk2 (tab_len _ _) (by unfold actK; rw [tab_len]; exact hA) (actK_end l A hA) 100)
   have HML := Lib.hid (show SrcC wr (.slice (some ⟨w.heap.size + 1, 0, none⟩) A 100) A 1 ((actL l A).map (Value.int .i64)) by have := HI.out.src; rwa [show (actL l A).length = A from tab_len _ _] at this)
   go_wp2_with (at_builtin; refine wp_gcopy rfl (.const (.slice none 0 0)) (.tmp 35) rfl Try.underlying22 hi0 hz0 hz1 hz2 rfl (by decide) (w.heap.size + 2) rfl rfl HML.out (by omega) (by omega) S.out.size ?_; intro ad6 cap6 w6 hown6 hgr6 hor6; have O6 : Hid (OwnI (w.heap.size + 2) w6 (.slice ad6 A cap6) (actL l A)) := Lib.hid (by unfold OwnI; rw [show (actL l A).length = A from tab_len _ _]; exact hown6); have S6 := Lib.hid (S.out.grown hgr6 (fun k hk => by cases hk)); clear hown6 hgr6 hor6)
   go_ret
   exact ⟨_, rfl, O6.out.ints, S6.out.below⟩
end Go.Proofs.Ytlhpjfnfemebdaa
namespace Go.Proofs.Ytlhpjfnfemebdaa
open Go.RowKit
def ractK (l : List Ed) (A k : Nat) : List Int := tab A (fun a => ((l.take k).countP (fun e => decide (e.2.1 = (a : Int))) : Int))
theorem ractK_hit {l : List Ed} {A k a : Nat} (hk : k < l.length) (he : (l.getD k (0, 0, 0)).2.1 = (a : Int)) (ha : a < A) : (ractK l A k).set a ((ractK l A k).getD a 0 + 1) = ractK l A (k + 1) := by
 have hv : (ractK l A k).getD a 0 = ((l.take k).countP (fun e => decide (e.2.1 = (a : Int))) : Int) := by unfold ractK; rw [tab_get _ _ _ _ ha]
 rw [hv]
 unfold ractK
 refine tab_set _ _ _ _ _ (fun _ => ?_) (fun x _ hx => ?_)
 ·rw [take_count hk, if_pos he]; omega
 ·rw [take_count hk, if_neg (fun e => hx (by omega)), Nat.add_zero]
theorem ractK_miss {l : List Ed} {A k a : Nat} (hk : k < l.length) (he : (l.getD k (0, 0, 0)).2.1 = (a : Int)) (ha : ¬ a < A) : ractK l A (k + 1) = ractK l A k := by
 unfold ractK
 refine tab_congrc _ _ _ fun x hx => ?_
 rw [take_count hk, if_neg (fun e => by omega), Nat.add_zero]
theorem ractK_le (l : List Ed) (A k a : Nat) (h : a < A) : 0 ≤ (ractK l A k).getD a 0 ∧ (ractK l A k).getD a 0 ≤ (l.length : Int) := by
 unfold ractK
 rw [tab_get _ _ _ _ h]
 have := List.countP_le_length (p := fun e : Ed => decide (e.2.1 = (a : Int))) (l := l.take k)
 rw [List.length_take] at this
 omega
set_option maxRecDepth 100000 in
set_option maxHeartbeats 32000000 in
theorem racting_ok (v : Value) (s : Sp) (A : Nat) (w : World) (h : SpV w v s) (hok : buildOk (s.confs.length : Int) s.ed = true) (hA : A ≤ 100) :
  Calls Try.prog 18 #[v, .int .i64 (A : Nat)] w fun r w' => ∃ rv, r = .returned rv ∧ IntsAt w' rv (actL (allL (buildG (s.confs.length : Int) s.ed)) A) ∧ Below w.heap.size w w' := by
 obtain ⟨vC, sa, sc, aa, ac, ta, tc, vP, vA, rfl, hC, hG, -, -⟩ := h.var
 obtain ⟨ca, cc, rfl, -⟩ := hC
 obtain ⟨hRt, -, hmem, -⟩ := sp_right hok
 have hlen : (allL (buildG (s.confs.length : Int) s.ed)).length ≤ 1000000 := by rw [allL_len hRt]; exact hG.sT
 have HAL := Lib.hid (fun (w' : World) (hb : Below w.heap.size w w') => rall_own _ _ w' (hG.below hb))
 have hal : ∀ e ∈ allL (buildG (s.confs.length : Int) s.ed), 0 ≤ e.2.1 := fun e he => (buildOk_mem hok).2 e ((hmem e).1 he) |>.2.2.2.2
 have HED := Lib.hid hal
 clear h hG hok hmem hRt hal
 generalize allL (buildG (s.confs.length : Int) s.ed) = l at *
 generalize (buildG (s.confs.length : Int) s.ed).S.length = nS at *
 generalize (buildG (s.confs.length : Int) s.ed).A.length = nA at *
 generalize (buildG (s.confs.length : Int) s.ed).T.length = nT at *
 generalize s.confs.length = n at *
 have X0 := Lib.hid (heap_alloc_new w (.cells #[.slice ca n cc, .slice sa nS sc, .slice aa nA ac, .slice ta nT tc, vP, vA] 32))
 have HB := Lib.hid (balloc w (.cells #[.slice ca n cc, .slice sa nS sc, .slice aa nA ac, .slice ta nT tc, vP, vA] 32))
 have HZ : Hid (List.replicate A 0 = ractK l A 0) := Lib.hid (by
  unfold ractK tab
  apply List.ext_getElem?
  intro i
  rw [List.getElem?_replicate, List.getElem?_map]
  by_cases hi : i < A
  ·rw [List.getElem?_range hi, if_pos hi]; simp
  ·rw [List.getElem?_eq_none (by simp; omega), if_neg hi]; rfl)
 have z0 : ¬ (A : Int) < 0 := by omega
 have z1 : ¬ (100 : Int) < (A : Int) := by omega
 go_enter Try.func18, Try.ntmps18
 go_wp2_with (first
  | (go_at_call 30; refine (HAL.out _ S3.out.below).mono ?_; rintro e1 w4 ⟨ev, rfl, hE, hb4⟩; obtain ⟨ea, ec, rfl⟩ := ownv hE; have S4 := Lib.hid (S3.out.more hb4); have ES4 := Lib.hid (eds_st (F := fun q => q = w.heap.size + 1) hE (fun q hq => by have := S3.out.size; omega)); clear hE hb4 S3 c1 c2 c3)
  | (at_make; refine wpList_make_one _ rfl (.tmp 14) (.tmp 14) 22 rfl 3 (.int .i64 0) rfl 8 Try.underlying22 Try.info3 .i64 .i64 (A : Nat) (A : Nat) A rfl rfl rfl rfl (by omega) (by unfold maxLen; omega) ?_; intro w3 hh3 hb3 hlt3; have S3 : Hid (Bx2 w w3 #[.slice ca n cc, .slice sa nS sc, .slice aa nA ac, .slice ta nT tc, vP, vA] 32 (ints (ractK l A 0)) 3) := Lib.hid ⟨HB.out.trans (hb3.mono HB.out.size), bheap hb3 X0.out, by rw [← HZ.out, ints_replicate]; simpa using hh3⟩; clear hh3 hb3 hlt3 X0 HB HZ; have c1 := cell_of_block S3.out.blk1 1 (.slice sa nS sc) rfl; have c2 := cell_of_block S3.out.blk1 2 (.slice aa nA ac) rfl; have c3 := cell_of_block S3.out.blk1 3 (.slice ta nT tc) rfl))
 go_loopg [7] l.length (fun fu c wr => ∃ (k : Nat), k + fu = l.length ∧ c = .int .i64 k ∧ Hid (St (fun q => q = w.heap.size + 1) (fun w => EdgesAt w (.slice ea l.length ec) l) wr) ∧ Hid (Bx2 w wr #[.slice ca n cc, .slice sa nS sc, .slice aa nA ac, .slice ta nT tc, vP, vA] 32 (ints (ractK l A k)) 3))
 case atStart => exact ⟨0, by omega, rfl, ES4, S4⟩
 case round =>
  clear ES4 S4
  obtain ⟨k, hk, rfl, ES, S⟩ := hrel
  by_cases hkl : k < l.length
  ·obtain ⟨ea', ec', e0, hec⟩ := ES.out.now
   cases e0
   obtain ⟨b2, o2, rfl, y1, y2, y3⟩ := hec k hkl
   have z5 : (k : Int) < (l.length : Int) := by omega
   have h1 := HED.out (l.getD k (0, 0, 0)) (by simp [List.getD, hkl])
   obtain ⟨a, ha⟩ : ∃ a : Nat, (l.getD k (0, 0, 0)).2.1 = (a : Int) := ⟨(l.getD k (0, 0, 0)).2.1.toNat, by omega⟩
   have HH := Lib.hid (fun h => ractK_hit (A := A) hkl ha h)
   have HM := Lib.hid (fun h => ractK_miss (A := A) hkl ha h)
   rw [ha] at y2
   clear hec ha h1 y1 y3
   by_cases hlt : a < A
   ·have hz := ractK_le l A k a hlt
    have HN := Lib.hid (HH.out hlt)
    have z2 : (a : Int) < (A : Int) := by omega
    have xa := cell_of_block S.out.blk2 a _ (ints_get (ractK l A k) a (by unfold ractK; rw [tab_len]; exact hlt))
    have xz := free_of_block S.out.blk2 a
    have SN := Lib.hid (S.out.set2 a (.int .i64 ((ractK l A k).getD a 0 + 1)))
    rw [ints_set, HN.out] at SN
    have EN := Lib.hid (ES.out.step (F' := fun q => q = w.heap.size + 1) ((Frm.refl (fun q => q = w.heap.size + 1) _).setCell (p := ⟨w.heap.size + 1, a, none⟩) (fun _ => rfl) (.int .i64 ((ractK l A k).getD a 0 + 1))) (fun q hq => .inl hq))
    have e1 : IntKind.i64.wrap ((ractK l A k).getD a 0 + 1) = (ractK l A k).getD a 0 + 1 := IntWalk.i64_in _ (by omega)
    clear HH HM HN S ES hz
    generalize (ractK l A k).getD a 0 = x at *
    go_wp2_with fail
    go_roundg (l.length - (k + 1))
    case measure => omega
    case rel => exact ⟨k + 1, by omega, by simp, EN, SN⟩
   ·have HN := Lib.hid (HM.out hlt)
    have z2 : ¬ (a : Int) < (A : Int) := by omega
    rw [← HN.out] at S
    clear HH HM
    go_wp2_with fail
    go_roundg (l.length - (k + 1))
    case measure => omega
    case rel => exact ⟨k + 1, by omega, by simp, ES, S⟩
  ·obtain rfl : k = l.length := by omega
   have z5 : ¬ (l.length : Int) < (l.length : Int) := by omega
   have HI : Hid (ractK l A l.length = actL l A) := Lib.hid (by unfold ractK actL; rw [List.take_length])
   rw [HI.out] at S
   clear HI ES
   go_wp2_with fail
   go_ret
   exact ⟨_, rfl, intsAt_block S.out.blk2 (tab_len _ _).symm _, S.out.below⟩
def actI (l : List Ed) (A : Int) : List Int := if A < 0 ∨ 100 < A then [] else actL l A.toNat
set_option maxRecDepth 100000 in
set_option maxHeartbeats 32000000 in
theorem acting_bad (v : Value) (s : Sp) (A : Int) (w : World) (h : SpV w v s) (hA : A < 0 ∨ 100 < A) :
  Calls Try.prog 17 #[v, .int .i64 A] w fun r w' => ∃ rv, r = .returned rv ∧ IntsAt w' rv [] ∧ Below w.heap.size w w' := by
 obtain ⟨vC, sa, sc, aa, ac, ta, tc, vP, vA, rfl, -⟩ := h.var
 have HB := Lib.hid (balloc w (.cells #[vC, .slice sa (buildG (s.confs.length : Int) s.ed).S.length sc, .slice aa (buildG (s.confs.length : Int) s.ed).A.length ac, .slice ta (buildG (s.confs.length : Int) s.ed).T.length tc, vP, vA] 32))
 clear h
 by_cases h0 : A < 0
 ·clear hA
  go_enter Try.func17, Try.ntmps17
  go_wp2_with fail
  go_ret
  exact ⟨_, rfl, intsAt_nil _, HB.out⟩
 ·have h1 : 100 < A := by omega
  clear hA
  go_enter Try.func17, Try.ntmps17
  go_wp2_with fail
  go_ret
  exact ⟨_, rfl, intsAt_nil _, HB.out⟩
set_option maxRecDepth 100000 in
set_option maxHeartbeats 32000000 in
theorem racting_bad (v : Value) (s : Sp) (A : Int) (w : World) (h : SpV w v s) (hA : A < 0 ∨ 100 < A) :
  Calls Try.prog 18 #[v, .int .i64 A] w fun r w' => ∃ rv, r = .returned rv ∧ IntsAt w' rv [] ∧ Below w.heap.size w w' := by
 obtain ⟨vC, sa, sc, aa, ac, ta, tc, vP, vA, rfl, -⟩ := h.var
 have HB := Lib.hid (balloc w (.cells #[vC, .slice sa (buildG (s.confs.length : Int) s.ed).S.length sc, .slice aa (buildG (s.confs.length : Int) s.ed).A.length ac, .slice ta (buildG (s.confs.length : Int) s.ed).T.length tc, vP, vA] 32))
 clear h
 by_cases h0 : A < 0
 ·clear hA
  go_enter Try.func18, Try.ntmps18
  go_wp2_with fail
  go_ret
  exact ⟨_, rfl, intsAt_nil _, HB.out⟩
 ·have h1 : 100 < A := by omega
  clear hA
  go_enter Try.func18, Try.ntmps18
  go_wp2_with fail
  go_ret
  exact ⟨_, rfl, intsAt_nil _, HB.out⟩
theorem acting_any (v : Value) (s : Sp) (A : Int) (w : World) (h : SpV w v s) (hok : buildOk (s.confs.length : Int) s.ed = true) (hag : ∀ e ∈ s.ed, e.2.1 < 100) :
  Calls Try.prog 17 #[v, .int .i64 A] w fun r w' => ∃ rv, r = .returned rv ∧ IntsAt w' rv (actI (allL (buildG (s.confs.length : Int) s.ed)) A) ∧ Below w.heap.size w w' := by
 by_cases hA : A < 0 ∨ 100 < A
 ·unfold actI; rw [if_pos hA]; exact acting_bad v s A w h hA
 ·unfold actI; rw [if_neg hA]
  obtain ⟨k, rfl⟩ : ∃ k : Nat, A = (k : Int) := ⟨A.toNat, by omega⟩
  rw [Int.toNat_natCast]
  exact acting30_ok v s k w h hok hag (by omega)
theorem racting_any (v : Value) (s : Sp) (A : Int) (w : World) (h : SpV w v s) (hok : buildOk (s.confs.length : Int) s.ed = true) :
  Calls Try.prog 18 #[v, .int .i64 A] w fun r w' => ∃ rv, r = .returned rv ∧ IntsAt w' rv (actI (allL (buildG (s.confs.length : Int) s.ed)) A) ∧ Below w.heap.size w w' := by
 by_cases hA : A < 0 ∨ 100 < A
 ·unfold actI; rw [if_pos hA]; exact racting_bad v s A w h hA
 ·unfold actI; rw [if_neg hA]
  obtain ⟨k, rfl⟩ : ∃ k : Nat, A = (k : Int) := ⟨A.toNat, by omega⟩
  rw [Int.toNat_natCast]
  exact racting_ok v s k w h hok (by omega)
end Go.Proofs.Ytlhpjfnfemebdaa
namespace Go.Proofs.Ytlhpjfnfemebdaa
open Go.RowKit
def dF (B : Nat) (vN : Value) (q : Nat) : Prop := q = B ∨ vN.ownBlock = some q
set_option maxRecDepth 100000 in
set_option maxHeartbeats 32000000 in
theorem depths_ok (v : Value) (s : Sp) (dep : Nat → Nat) (w : World) (h : SpV w v s) (hd : Dp s.confs.length s.ed dep) (hok : buildOk (s.confs.length : Int) s.ed = true) (hn : 0 < s.confs.length ∧ s.confs.length ≤ 500) (hl : s.ed.length ≤ 1000000) :
  Calls Try.prog 13 #[v] w fun r w' => ∃ rv, r = .returned rv ∧ IntsAt w' rv (depL s.confs.length dep) ∧ Below w.heap.size w w' := by
 obtain ⟨i0, hi0, hz0, hz1, hz2⟩ := info_parts Try.info3
 obtain ⟨vC, sa, sc, aa, ac, ta, tc, vP, vA, rfl, hC, hG, -, -⟩ := h.var
 obtain ⟨ca, cc, rfl, -⟩ := hC
 obtain ⟨-, -, -, hO⟩ := sp_right hok
 have HOU := Lib.hid (fun (w' : World) (hb : Below w.heap.size w w') (i : Nat) (hi : i < s.confs.length) => (hO i hi) ▸ out_new _ _ (i : Int) w' (hG.below hb))
 have HD := Lib.hid hd
 have HLO : Hid (∀ i, (outs s.ed i).length ≤ 1000000) := Lib.hid (fun i => Nat.le_trans (List.filter_sublist).length_le hl)
 obtain ⟨n, hnn⟩ : ∃ n, n = s.confs.length := ⟨_, rfl⟩
 rw [← hnn] at HOU HD hn ⊢
 clear h hG hO hok hd hl
 generalize s.ed = l at *
 generalize (buildG (n : Int) l).S.length = nS at *
 generalize (buildG (n : Int) l).A.length = nA at *
 generalize (buildG (n : Int) l).T.length = nT at *
 obtain ⟨hn0, hn5⟩ := hn
 try rw [← hnn]
 clear hnn
 have X0 := Lib.hid (heap_alloc_new w (.cells #[.slice ca n cc, .slice sa nS sc, .slice aa nA ac, .slice ta nT tc, vP, vA] 32))
 have HB := Lib.hid (balloc w (.cells #[.slice ca n cc, .slice sa nS sc, .slice aa nA ac, .slice ta nT tc, vP, vA] 32))
 go_enter Try.func13, Try.ntmps13
 go_wp2_with (first
  | (at_make; refine wpList_make_one _ rfl (.tmp 15) (.tmp 15) 22 rfl 3 (.int .i64 0) rfl 8 Try.underlying22 Try.info3 .i64 .i64 (n : Nat) (n : Nat) n rfl rfl rfl rfl (by omega) (by unfold maxLen; omega) ?_; intro w3 hh3 hb3 hlt3; have S3 : Hid (Bx2 w w3 #[.slice ca n cc, .slice sa nS sc, .slice aa nA ac, .slice ta nT tc, vP, vA] 32 (ints (List.replicate n 0)) 3) := Lib.hid ⟨HB.out.trans (hb3.mono HB.out.size), bheap hb3 X0.out, by rw [ints_replicate]; simpa using hh3⟩; clear hh3 hb3 hlt3 X0 HB))
 go_loopg [18] n (fun fu c wr => ∃ (k : Nat) (out : List Int), k + fu = n ∧ c = .int .i64 k ∧ out.length = n ∧ Hid (∀ j, j < k → out.getD j 0 = -1) ∧ Hid (Bx2 w wr #[.slice ca n cc, .slice sa nS sc, .slice aa nA ac, .slice ta nT tc, vP, vA] 32 (ints out) 3))
 case atStart => exact ⟨0, _, by omega, rfl, by simp, Lib.hid (fun j hj => by omega), S3⟩
 case round =>
  clear S3
  obtain ⟨k, out, hk, rfl, hlen, HO, S⟩ := hrel
  by_cases hlt : k < n
  ·have z1 : (k : Int) < (n : Int) := by omega
   have xc := cell_of_block S.out.blk2 k _ (ints_get out k (by omega))
   have xf := free_of_block S.out.blk2 k
   have HN : Hid (∀ j, j < k + 1 → (out.set k (-1)).getD j 0 = -1) := Lib.hid (fun j hj => by
    rw [getD_set _ _ _ _ _ (by omega)]
    split
    ·rfl
    ·exact HO.out j (by omega))
   have SN := Lib.hid (S.out.set2 k (.int .i64 (-1)))
   rw [ints_set] at SN
   clear S HO
   generalize out.getD k 0 = xk at *
   go_wp2_with fail
   go_roundg (n - (k + 1))
   case measure => omega
   case rel => exact ⟨k + 1, _, by omega, by simp, by simpa using hlen, HN, SN⟩
  ·obtain rfl : n = k := by omega
   have z1 : ¬ (n : Int) < (n : Int) := by omega
   have z2 : (0 : Int) < (n : Int) := by omega
   have HLN : Hid (out.length = n) := Lib.hid hlen
   clear hlen hlt
   go_wp2_with (first
    | (at_builtin; refine wpList_append_lies (wr.alloc (.cells #[.int .i64 0] 3)) rfl (.tmp 27) (.tmp 28) 22 rfl (w.heap.size + 2) 3 i0 (.int .i64 0) 1 8 Try.underlying22 hi0 hz0 hz1 hz2 rfl (by decide) (.slice none 0 0) 0 [] rfl (World.ownsRow_nil _ _ _ _) ⟨wr.heap.size, 0, none⟩ 1 1 [.int .i64 0] rfl rfl (World.news_of_block (heap_alloc_new _ _)) (by simp [Value.oneCell']) (by omega) (by unfold maxLen; omega) (by omega) (by have := S.out.size; simp only [alloc_size]; omega) (wr.heap.size + 1) (by simp) ?_; intro g4 cap4 w4 hown4 hgr4 hor4 hlt4; have S4 := Lib.hid ((S.out.more (balloc wr (.cells #[.int .i64 0] 3))).grown hgr4 (fun n e => by cases e)); have O4 : Hid (OwnI (w.heap.size + 2) w4 (.slice (some ⟨g4, 0, none⟩) 1 cap4) [0]) := Lib.hid hown4; clear hown4 hgr4 hor4 hlt4 S; have xc := cell_of_block S4.out.blk2 0 _ (ints_get out 0 (by rw [HLN.out]; omega)); have xf := free_of_block S4.out.blk2 0))
   have HST : Hid (FrontD n dep 0 [0] ∧ Bfs n l dep 0 (fun _ => False) (out.set 0 0) []) := Lib.hid (Bfs.start HD.out hn0 (by rw [List.length_set]; exact HLN.out) (by rw [getD_set _ _ _ _ _ (by rw [HLN.out]; omega)]; exact if_pos rfl) (fun j h1 hj => by rw [getD_set _ _ _ _ _ (by rw [HLN.out]; omega), if_neg (by omega)]; exact HO.out j hj))
   have S5 := Lib.hid (S4.out.set2 0 (.int .i64 0))
   rw [ints_set] at S5
   have O5 : Hid (OwnI (w.heap.size + 2) (w4.setCell ⟨w.heap.size + 1, 0, none⟩ (.int .i64 0)) (.slice (some ⟨g4, 0, none⟩) 1 cap4) [0]) := Lib.hid (ownsRow_setCell_below O4.out (by show w.heap.size + 1 < w.heap.size + 2; omega) _)
   clear S4 O4 HLN HO xc xf
   generalize out.set 0 0 = out0 at *
   generalize w4.setCell ⟨w.heap.size + 1, 0, none⟩ (.int .i64 0) = w5 at *
   go_loopg [6] (n + 1) (fun fu fv wr => ∃ (d : Nat) (fr out : List Int), d + fu = n + 1 ∧ Hid (OwnI (w.heap.size + 2) wr fv fr) ∧ Hid (FrontD n dep d fr ∧ Bfs n l dep d (fun _ => False) out []) ∧ Hid (Bx2 w wr #[.slice ca n cc, .slice sa nS sc, .slice aa nA ac, .slice ta nT tc, vP, vA] 32 (ints out) 3))
   case atStart => exact ⟨0, [0], _, by omega, O5, HST, S5⟩
   case round =>
    clear O5 HST S5
    obtain ⟨d, fr, out1, hd, O, HF, S⟩ := hrel
    obtain ⟨fa, fc, rfl⟩ := ownv O.out
    by_cases hfr : fr = []
    ·subst hfr
     have E : Hid (out1 = depL n dep) := Lib.hid (Bfs.last HD.out HF.out.1 HF.out.2)
     clear HF
     go_wp2_with fail
     go_ret
     exact ⟨_, rfl, intsAt_block (by have := S.out.blk2; rwa [E.out] at this) (by unfold depL; rw [tab_len]) _, S.out.below⟩
    ·have hpos : 0 < fr.length := List.length_pos_iff.2 hfr
     have hfl := HF.out.1.1
     have hdk : d < n := by
      obtain ⟨j, -, h2, h3⟩ := HF.out.1.2.1 (fr.getD 0 0) (by simp [List.getD, hpos])
      have := HD.out.le j h2
      omega
     have z3 : (0 : Int) < (fr.length : Int) := by omega
     have OS : Hid (St (dF (w.heap.size + 1) (.slice none 0 0)) (fun w => IntsAt w (.slice fa fr.length fc) fr) wr) := Lib.hid (O.out.st (fun q hq => by rcases hq with e | e; (rw [e]; omega); cases e))
     have HB0 : Hid (Bfs n l dep d (fun e : Ed => e.1 ∈ fr.take 0) out1 []) := Lib.hid (HF.out.2.imp fun e _ h => by simp at h)
     clear O
     go_wp2_with fail
     go_loopg [7, 37] fr.length (fun fu vN c wr => ∃ (p : Nat) (next out : List Int), p + fu = fr.length ∧ c = .int .i64 p ∧ Hid (OwnI (w.heap.size + 2) wr vN next) ∧ Hid (St (dF (w.heap.size + 1) vN) (fun w => IntsAt w (.slice fa fr.length fc) fr) wr) ∧ Hid (Bfs n l dep d (fun e => e.1 ∈ fr.take p) out next) ∧ Hid (Bx2 w wr #[.slice ca n cc, .slice sa nS sc, .slice aa nA ac, .slice ta nT tc, vP, vA] 32 (ints out) 3))
     case atStart => exact ⟨0, [], _, by omega, rfl, Lib.hid (OwnI.nil _ _), OS, HB0, S⟩
     case round =>
      clear OS HB0 S
      obtain ⟨p, next, out2, hp, rfl, O, FS, HBf, S⟩ := hrel
      obtain ⟨na, nc, rfl⟩ := ownv O.out
      by_cases hpl : p < fr.length
      ·obtain ⟨fa', fc', e0, hfc⟩ := FS.out.now
       cases e0
       obtain ⟨b1, o1, rfl, xf⟩ := hfc p hpl
       obtain ⟨i, hi, hik, hid⟩ := HF.out.1.2.1 (fr.getD p 0) (by simp [List.getD, hpl])
       rw [hi] at xf
       have z4 : (p : Int) < (fr.length : Int) := by omega
       have c1 := cell_of_block S.out.blk1 1 (.slice sa nS sc) rfl
       have c2 := cell_of_block S.out.blk1 2 (.slice aa nA ac) rfl
       have c3 := cell_of_block S.out.blk1 3 (.slice ta nT tc) rfl
       have HO := Lib.hid (HOU.out wr S.out.below i hik)
       have hel := HLO.out i
       have HEL : Hid (∀ e, e ∈ outs l i ↔ e ∈ l ∧ e.1 = (i : Int)) := Lib.hid (fun e => by unfold outs; rw [List.mem_filter, decide_eq_true_iff])
       have HTK : Hid (∀ e : Ed, e.1 ∈ fr.take (p + 1) → e.1 ∈ fr.take p ∨ e.1 = (i : Int)) := Lib.hid (fun e h => by
        rw [take_succ_getD (d := 0) hpl, hi, List.mem_append, List.mem_singleton] at h
        exact h)
       clear hfc hi
       generalize outs l i = el at *
       go_wp2_with (go_at_call 31; refine HO.out.mono ?_; rintro e1 w6 ⟨ev, rfl, hE, hb6⟩; obtain ⟨ea, ec, rfl⟩ := ownv hE; have S6 := Lib.hid (S.out.more hb6); have O6 := Lib.hid (O.out.more hb6); have FS6 := Lib.hid (FS.out.more hb6); have ES6 := Lib.hid (eds_st (F := dF (w.heap.size + 1) (.slice na next.length nc)) hE (fun q hq => by rcases hq with e | e; (have := S.out.size; omega); exact (World.ownsRow.lt O.out q e).2)); clear hE hb6)
       have HB1 : Hid (Bfs n l dep d (fun e => e.1 ∈ fr.take p ∨ e ∈ el.take 0) out2 next) := Lib.hid (HBf.out.imp fun e _ h => by rcases h with h | h; exact h; simp at h)
       clear O FS HBf S c1 c2 c3 xf HO
       go_loopg [7, 46] el.length (fun fu vN c wr => ∃ (q : Nat) (next out : List Int), q + fu = el.length ∧ c = .int .i64 q ∧ Hid (OwnI (w.heap.size + 2) wr vN next) ∧ Hid (St (dF (w.heap.size + 1) vN) (fun w => IntsAt w (.slice (some ⟨b1, o1, none⟩) fr.length fc) fr) wr) ∧ Hid (St (dF (w.heap.size + 1) vN) (fun w => EdgesAt w (.slice ea el.length ec) el) wr) ∧ Hid (Bfs n l dep d (fun e => e.1 ∈ fr.take p ∨ e ∈ el.take q) out next) ∧ Hid (Bx2 w wr #[.slice ca n cc, .slice sa nS sc, .slice aa nA ac, .slice ta nT tc, vP, vA] 32 (ints out) 3))
       case atStart => exact ⟨0, _, _, by omega, rfl, O6, FS6, ES6, HB1, S6⟩
       case round =>
        clear O6 FS6 ES6 HB1 S6
        obtain ⟨q, next3, out3, hq, rfl, O, FS, ES, HBf, S⟩ := hrel
        obtain ⟨na3, nc3, rfl⟩ := ownv O.out
        by_cases hql : q < el.length
        ·obtain ⟨ea', ec', e0, hec⟩ := ES.out.now
         cases e0
         obtain ⟨b2, o2, rfl, y1, y2, y3⟩ := hec q hql
         have z5 : (q : Int) < (el.length : Int) := by omega
         have hmem : el.getD q (0, 0, 0) ∈ el := by simp [List.getD, hql]
         obtain ⟨hml, hm1⟩ := (HEL.out _).1 hmem
         obtain ⟨-, -, b3, b4⟩ := HD.out.ed _ hml
         obtain ⟨t, ht⟩ : ∃ t : Nat, (el.getD q (0, 0, 0)).2.2 = (t : Int) := ⟨(el.getD q (0, 0, 0)).2.2.toNat, by omega⟩
         have htk : t < n := by omega
         have HTQ : Hid (∀ e, e ∈ el.take (q + 1) → e ∈ el.take q ∨ e = el.getD q (0, 0, 0)) := Lib.hid (fun e h => by
          rw [take_succ_getD (d := (0, 0, 0)) hql, List.mem_append, List.mem_singleton] at h
          exact h)
         have HNEW := Lib.hid (fun hx => HBf.out.new (P' := fun e => e.1 ∈ fr.take p ∨ e ∈ el.take (q + 1)) HD.out hml (by rw [hm1]; exact hid) hx (fun x h => by rcases h with h | h; (left; left; exact h); (rcases HTQ.out x h with h | h; (left; right; exact h); (right; exact h))))
         have HOLD := Lib.hid (fun hx => HBf.out.old (P' := fun e => e.1 ∈ fr.take p ∨ e ∈ el.take (q + 1)) HD.out hml (by rw [hm1]; exact hid) hx (fun x h => by rcases h with h | h; (left; left; exact h); (rcases HTQ.out x h with h | h; (left; right; exact h); (right; exact h))))
         have hol := HBf.out.len
         have hnl := HBf.out.nlen
         have hdi : out3.getD i 0 = (d : Int) := by
          rcases HBf.out.val i hik with ⟨r, -⟩ | ⟨-, r, -⟩ <;> omega
         rw [ht] at y3 HNEW HOLD
         rw [hm1] at y1
         simp only [Int.toNat_natCast] at HNEW HOLD
         clear hec hml hmem hm1 ht b3 b4 HTQ HBf
         generalize (el.getD q (0, 0, 0)).2.1 = a at *
         have SW := Lib.hid (S.out.more (balloc wr (.cells #[.int .i64 i, .int .i64 a, .int .i64 t] 65)))
         have xt := cell_of_block SW.out.blk2 t _ (ints_get out3 t (by omega))
         have xi := cell_of_block SW.out.blk2 i _ (ints_get out3 i (by omega))
         have xz := free_of_block SW.out.blk2 t
         rw [hdi] at xi
         by_cases hx : out3.getD t 0 = -1
         ·rw [hx] at xt
          have HN := Lib.hid (HNEW.out hx)
          clear HNEW HOLD hdi hx
          have e1 : IntKind.i64.wrap ((d : Int) + 1) = (d : Int) + 1 := IntWalk.i64_in _ (by omega)
          have hbs := S.out.size
          have K5 : Hid (((wr.alloc (.cells #[.int .i64 i, .int .i64 a, .int .i64 t] 65)).drew.setCell ⟨w.heap.size + 1, t, none⟩ (.int .i64 ((d : Int) + 1))).heap[wr.heap.size]? = some (.cells #[.int .i64 i, .int .i64 a, .int .i64 t] 65 (0, 0))) := Lib.hid (by
           rw [heap_set_ne (by omega)]
           exact heap_alloc_new wr _)
          have HS6 : Hid (((wr.alloc (.cells #[.int .i64 i, .int .i64 a, .int .i64 t] 65)).setCell ⟨w.heap.size + 1, t, none⟩ (.int .i64 ((d : Int) + 1))).heap.size = wr.heap.size + 1) := Lib.hid (by simp)
          have O6 : Hid (OwnI (w.heap.size + 2) ((wr.alloc (.cells #[.int .i64 i, .int .i64 a, .int .i64 t] 65)).setCell ⟨w.heap.size + 1, t, none⟩ (.int .i64 ((d : Int) + 1))) (.slice na3 next3.length nc3) next3) := Lib.hid (ownsRow_setCell_below (O.out.more (balloc wr (.cells #[.int .i64 i, .int .i64 a, .int .i64 t] 65))) (by show w.heap.size + 1 < w.heap.size + 2; omega) _)
          have OA : Hid (OwnI (w.heap.size + 2) (((wr.alloc (.cells #[.int .i64 i, .int .i64 a, .int .i64 t] 65)).setCell ⟨w.heap.size + 1, t, none⟩ (.int .i64 ((d : Int) + 1))).alloc (.cells #[.int .i64 t] 3)).drew (.slice na3 next3.length nc3) next3) := Lib.hid (by unfold OwnI; exact ((O6.out.more (balloc ((wr.alloc (.cells #[.int .i64 i, .int .i64 a, .int .i64 t] 65)).setCell ⟨w.heap.size + 1, t, none⟩ (.int .i64 ((d : Int) + 1))) _)).more (Below.refl _ _).drew))
          have y7 := cell_of_block K5.out 2 (.int .i64 t) rfl
          have SN := Lib.hid (SW.out.drew.set2 t (.int .i64 ((d : Int) + 1)))
          rw [ints_set] at SN
          have SX0 := SW.out.set2 t (.int .i64 ((d : Int) + 1))
          rw [ints_set] at SX0
          have SX := Lib.hid ((SX0.more (balloc ((wr.alloc (.cells #[.int .i64 i, .int .i64 a, .int .i64 t] 65)).setCell ⟨w.heap.size + 1, t, none⟩ (.int .i64 ((d : Int) + 1))) (.cells #[.int .i64 t] 3))).drew)
          clear SX0
          have SA := Lib.hid ((SN.out.more (balloc _ (.cells #[.int .i64 t] 3))))
          go_wp2_with fail
          refine region_tail 8 (by kernel_rfl) (by kernel_rfl) ?_
          simp only [List.take_succ_cons, List.take_zero, List.drop_succ_cons, List.drop_zero]
          repeat still_step
          refine wpStill_nil ?_
          go_wp2_with (first
           | (at_builtin; refine wpList_append_lies (((wr.alloc (.cells #[.int .i64 i, .int .i64 a, .int .i64 t] 65)).setCell ⟨w.heap.size + 1, t, none⟩ (.int .i64 ((d : Int) + 1))).alloc (.cells #[.int .i64 t] 3)).drew rfl (.tmp 65) (.tmp 68) 22 rfl (w.heap.size + 2) 3 i0 (.int .i64 0) 1 8 Try.underlying22 hi0 hz0 hz1 hz2 rfl (by decide) (.slice na3 next3.length nc3) next3.length (next3.map (Value.int .i64)) rfl OA.out ⟨wr.heap.size + 1, 0, none⟩ 1 1 [.int .i64 t] rfl rfl (World.news_of_block (by rw [← HS6.out]; exact heap_alloc_new _ _)) (by simp [Value.oneCell']) (by omega) (by unfold maxLen; omega) (by omega) (by have := SA.out.size; exact this) (((wr.alloc (.cells #[.int .i64 i, .int .i64 a, .int .i64 t] 65)).setCell ⟨w.heap.size + 1, t, none⟩ (.int .i64 ((d : Int) + 1))).alloc (.cells #[.int .i64 t] 3)).drew.heap.size (by simp) ?_; intro g7 cap7 w7 hown7 hgr7 hor7 hlt7; have S7 := Lib.hid (SX.out.grown hgr7 (fun k e => (World.ownsRow.lt O.out k e).1)); have O7 : Hid (OwnI (w.heap.size + 2) w7 (.slice (some ⟨g7, 0, none⟩) (next3.length + 1) cap7) (next3 ++ [(t : Int)])) := Lib.hid (by unfold OwnI; rw [List.length_append, List.map_append]; exact hown7); have K7 : Hid (Frm (dF (w.heap.size + 1) (.slice na3 next3.length nc3)) wr w7) := Lib.hid (((((bfrm (balloc wr (.cells #[.int .i64 i, .int .i64 a, .int .i64 t] 65)) _).setCell (p := ⟨w.heap.size + 1, t, none⟩) (fun _ => .inl rfl) _).alloc _).drew).grown hgr7 (fun k e _ => .inr e)); have F7 : Hid (∀ q, dF (w.heap.size + 1) (.slice (some ⟨g7, 0, none⟩) (next3.length + 1) cap7) q → dF (w.heap.size + 1) (.slice na3 next3.length nc3) q ∨ wr.heap.size ≤ q) := Lib.hid (fun q hq => by rcases hq with e | e; exact .inl (.inl e); exact (own_hor (N := wr.heap.size) hor7 (by show wr.heap.size ≤ (((wr.alloc (.cells #[.int .i64 i, .int .i64 a, .int .i64 t] 65)).setCell ⟨w.heap.size + 1, t, none⟩ (.int .i64 ((d : Int) + 1))).alloc (.cells #[.int .i64 t] 3)).heap.size; rw [alloc_size, HS6.out]; omega) q e).imp .inr id); have FS7 := Lib.hid (FS.out.step K7.out F7.out); have ES7 := Lib.hid (ES.out.step K7.out F7.out); clear hown7 hgr7 hor7 hlt7 FS ES O S SX OA K7 F7))
          go_roundg (el.length - (q + 1))
          case measure => omega
          case rel => exact ⟨q + 1, _, _, by omega, by simp, O7, FS7, ES7, HN, S7⟩
         ·have HN := Lib.hid (HOLD.out hx)
          clear HNEW HOLD
          generalize out3.getD t 0 = xx at *
          go_wp2_with fail
          go_roundg (el.length - (q + 1))
          case measure => omega
          case rel => exact ⟨q + 1, _, _, by omega, by simp, Lib.hid (O.out.more (balloc wr (.cells #[.int .i64 i, .int .i64 a, .int .i64 t] 65))), Lib.hid (FS.out.more (balloc wr (.cells #[.int .i64 i, .int .i64 a, .int .i64 t] 65))), Lib.hid (ES.out.more (balloc wr (.cells #[.int .i64 i, .int .i64 a, .int .i64 t] 65))), HN, SW⟩
        ·obtain rfl : q = el.length := by omega
         have z5 : ¬ (el.length : Int) < (el.length : Int) := by omega
         have HN : Hid (Bfs n l dep d (fun e => e.1 ∈ fr.take (p + 1)) out3 next3) := Lib.hid (HBf.out.imp fun e he h => by
          rcases HTK.out e h with h | h
          ·exact .inl h
          ·right
           rw [List.take_length]
           exact (HEL.out e).2 ⟨he, h⟩)
         clear HBf
         go_wp2_with fail
         go_roundg (fr.length - (p + 1))
         case measure => omega
         case rel => exact ⟨p + 1, _, _, by omega, by simp, O, FS, HN, S⟩
      ·obtain rfl : p = fr.length := by omega
       have z4 : ¬ (fr.length : Int) < (fr.length : Int) := by omega
       have HN := Lib.hid (HBf.out.front HD.out (fun e he h => by
        rw [List.take_length]
        have := HD.out.ed e he
        have := HF.out.1.2.2 e.1.toNat (by omega) h
        rwa [show ((e.1.toNat : Nat) : Int) = e.1 from by omega] at this))
       clear HBf FS
       go_wp2_with fail
       go_roundg (n - d)
       case measure => omega
       case rel => exact ⟨d + 1, next, out2, by omega, O, HN, S⟩
end Go.Proofs.Ytlhpjfnfemebdaa
namespace Go.Proofs.Ytlhpjfnfemebdaa
open Go.RowKit
def widK (dep : Nat → Nat) (k m : Nat) : List Int := tab m (fun v => (cntD dep k v : Int))
theorem widK_set {dep : Nat → Nat} {k m : Nat} (_h : dep k < m) : (widK dep k m).set (dep k) ((cntD dep k (dep k) : Int) + 1) = widK dep (k + 1) m := by
 unfold widK
 refine tab_set _ _ _ _ _ (fun _ => ?_) (fun x _ hx => ?_)
 ·rw [cntD_succ, if_pos rfl]; omega
 ·rw [cntD_succ, if_neg (fun e => hx e.symm)]; omega
theorem tab_snoc {α : Type} (m : Nat) (f : Nat → α) : tab (m + 1) f = tab m f ++ [f m] := by
 unfold tab; rw [List.range_succ, List.map_append]; rfl
structure BxS (w wr : World) (c : Array Value) (t : TypeId) : Prop where
 below : Below w.heap.size w wr
 blk : wr.heap[w.heap.size]? = some (.cells c t (0, 0))
theorem BxS.start (w : World) (c : Array Value) (t : TypeId) : BxS w (w.alloc (.cells c t)) c t := ⟨balloc w _, heap_alloc_new w _⟩
theorem BxS.more {w wr w' : World} {c : Array Value} {t : TypeId} (h : BxS w wr c t) (hb : Below wr.heap.size wr w') : BxS w w' c t := ⟨h.below.trans (hb.mono h.below.size), bheap hb h.blk⟩
theorem BxS.size {w wr : World} {c : Array Value} {t : TypeId} (h : BxS w wr c t) : w.heap.size + 1 ≤ wr.heap.size := (Array.getElem?_eq_some_iff.1 h.blk).1
theorem BxS.grown {w wr w' : World} {c : Array Value} {t : TypeId} (h : BxS w wr c t) {b : Option Nat} (hg : wr.grownBy w' b) (hr : ∀ k, b = some k → w.heap.size + 1 ≤ k) : BxS w w' c t := by
 have hs := h.size
 refine ⟨h.below.grown hg h.below.size (fun k hk => by have := hr k hk; omega), ?_⟩
 rw [hg.block _ (by omega) (fun e => by have := hr _ e.symm; omega)]; exact h.blk
set_option maxRecDepth 100000 in
set_option maxHeartbeats 32000000 in
theorem widths_ok (v : Value) (s : Sp) (dep : Nat → Nat) (w : World) (h : SpV w v s) (hd : Dp s.confs.length s.ed dep) (hok : buildOk (s.confs.length : Int) s.ed = true) (hn : 0 < s.confs.length ∧ s.confs.length ≤ 500) (hl : s.ed.length ≤ 1000000) :
  Calls Try.prog 15 #[v] w fun r w' => ∃ rv, r = .returned rv ∧ IntsAt w' rv (widL s.confs.length dep) ∧ Below w.heap.size w w' := by
 obtain ⟨i0, hi0, hz0, hz1, hz2⟩ := info_parts Try.info3
 have HDE := Lib.hid (fun (w' : World) (hb : Below w.heap.size w w') => depths_ok v s dep w' (h.below hb) hd hok hn hl)
 obtain ⟨vC, sa, sc, aa, ac, ta, tc, vP, vA, rfl, hC, hG, hP, hA⟩ := h.var
 obtain ⟨ca, cc, rfl, -⟩ := hC
 obtain ⟨pa, pc, rfl, -⟩ := hP
 obtain ⟨ba, bc, rfl, -⟩ := hA
 have HD := Lib.hid hd
 obtain ⟨n, hnn⟩ : ∃ n, n = s.confs.length := ⟨_, rfl⟩
 rw [← hnn] at HDE HD hn ⊢
 clear h hG hok hd hl
 generalize (buildG (n : Int) s.ed).S.length = nS at *
 generalize (buildG (n : Int) s.ed).A.length = nA at *
 generalize (buildG (n : Int) s.ed).T.length = nT at *
 generalize s.par.length = nP at *
 generalize s.ag.length = nB at *
 obtain ⟨hn0, hn5⟩ := hn
 try rw [← hnn]
 clear hnn
 have S0 := Lib.hid (BxS.start w #[.slice ca n cc, .slice sa nS sc, .slice aa nA ac, .slice ta nT tc, .slice pa nP pc, .slice ba nB bc] 32)
 have HWL : Hid (widL n dep = widK dep n (dep (n - 1) + 1)) := Lib.hid rfl
 have HMO : Hid (∀ j, j < n → dep j ≤ j ∧ (0 < j → dep (j - 1) ≤ dep j)) := Lib.hid (fun j hj => ⟨HD.out.le j hj, fun h => HD.out.mono (j - 1) j (by omega) hj⟩)
 have HMN : Hid (∀ j j', j ≤ j' → j' < n → dep j ≤ dep j') := Lib.hid HD.out.mono
 have HDL : Hid ((depL n dep).length = n ∧ ∀ j, j < n → (depL n dep).getD j 0 = (dep j : Int)) := Lib.hid ⟨tab_len _ _, fun j hj => tab_get _ _ _ _ hj⟩
 have c0 := cell_of_block S0.out.blk 0 (.slice ca n cc) rfl
 have c1 := cell_of_block S0.out.blk 1 (.slice sa nS sc) rfl
 have c2 := cell_of_block S0.out.blk 2 (.slice aa nA ac) rfl
 have c3 := cell_of_block S0.out.blk 3 (.slice ta nT tc) rfl
 have c4 := cell_of_block S0.out.blk 4 (.slice pa nP pc) rfl
 have c5 := cell_of_block S0.out.blk 5 (.slice ba nB bc) rfl
 clear HD
 generalize depL n dep = DL at *
 go_enter Try.func15, Try.ntmps15
 go_wp2_with (go_at_call 13; refine (HDE.out _ S0.out.below).mono ?_; rintro e1 w2 ⟨dv, rfl, hI, hb2⟩; obtain ⟨da, dc, rfl, hI⟩ := hI; have hI' : IntsAt w2 (.slice da DL.length dc) DL := ⟨da, dc, rfl, hI⟩; have S2 := Lib.hid (S0.out.more hb2); have IS := Lib.hid hI'; clear hI hI' hb2 S0 c0 c1 c2 c3 c4 c5)
 go_loopg [3, 9] DL.length (fun fu lv c wr => ∃ (k m : Nat), k + fu = DL.length ∧ c = .int .i64 k ∧ Hid (OwnI w2.heap.size wr lv (widK dep k m)) ∧ Hid (m = if k = 0 then 0 else dep (k - 1) + 1) ∧ Hid (Below w2.heap.size w2 wr))
 case atStart => exact ⟨0, 0, by omega, rfl, Lib.hid (OwnI.nil _ _), Lib.hid rfl, Lib.hid (Below.refl _ _)⟩
 case round =>
  obtain ⟨k, m, hk, rfl, O, HM, HB⟩ := hrel
  obtain ⟨la, lc, hlv⟩ := ownv O.out
  rw [show (widK dep k m).length = m from tab_len _ _] at hlv
  subst hlv
  by_cases hlt : k < DL.length
  ·have z1 : (k : Int) < (DL.length : Int) := by omega
   have hkn : k < n := by have := HDL.out.1; omega
   obtain ⟨da', dc', e0, hI⟩ := IS.out.below HB.out
   cases e0
   obtain ⟨b1, o1, rfl, xd⟩ := hI k hlt
   rw [HDL.out.2 k hkn] at xd
   obtain ⟨hdk, hdm⟩ := HMO.out k hkn
   have hmd : m ≤ dep k + 1 := by
    have := HM.out
    split at this
    ·omega
    ·have := hdm (by omega); omega
   obtain ⟨dk, hdk2⟩ : ∃ d, d = dep k := ⟨_, rfl⟩
   have HDK : Hid (dk = dep k) := Lib.hid hdk2
   rw [← hdk2] at xd hdk hmd
   have HZ : Hid (∀ x, m ≤ x → cntD dep k x = 0) := Lib.hid (fun x hx => by
    apply Nat.eq_zero_of_not_pos
    rw [cntD_pos]
    rintro ⟨j, hj, e⟩
    have h1 := HM.out
    rw [if_neg (by omega)] at h1
    have h2 := HMN.out j (k - 1) (by omega) (by omega)
    omega)
   clear hI hdm hdk2 HM
   go_wp2_with fail
   go_loopg [3] (dk + 1 - m) (fun fu lv wr => ∃ m', m' + fu = dk + 1 ∧ Hid (m ≤ m') ∧ Hid (OwnI w2.heap.size wr lv (widK dep k m')) ∧ Hid (Below w2.heap.size w2 wr))
   case atStart => exact ⟨m, by omega, Lib.hid (Nat.le_refl _), O, HB⟩
   case round =>
    clear O HB
    obtain ⟨m', hm', HMM, O, HB⟩ := hrel
    obtain ⟨la, lc, hlv⟩ := ownv O.out
    have HLM : Hid ((widK dep k m').length = m') := Lib.hid (tab_len _ _)
    rw [HLM.out] at hlv
    subst hlv
    by_cases hle : m' ≤ dk
    ·have z2 : (m' : Int) ≤ (dk : Int) := by omega
     have HN : Hid (widK dep k (m' + 1) = widK dep k m' ++ [0]) := Lib.hid (by
      unfold widK
      rw [tab_snoc, HZ.out m' HMM.out]; rfl)
     have HOW : Hid (wr.ownsRow w2.heap.size 3 1 (.slice la m' lc) m' ((widK dep k m').map (Value.int .i64))) := Lib.hid (by have := O.out; unfold OwnI at this; rwa [HLM.out] at this)
     clear HZ O
     go_wp2_with (at_builtin; refine wpList_append_lies (wr.alloc (.cells #[.int .i64 0] 3)) rfl (.tmp 17) (.tmp 18) 22 rfl w2.heap.size 3 i0 (.int .i64 0) 1 8 Try.underlying22 hi0 hz0 hz1 hz2 rfl (by decide) (.slice la m' lc) m' _ rfl (HOW.out.alloc _) ⟨wr.heap.size, 0, none⟩ 1 1 [.int .i64 0] rfl rfl (World.news_of_block (heap_alloc_new _ _)) (by simp [Value.oneCell']) (by omega) (by unfold maxLen; omega) (by omega) (by have := HB.out.size; simp only [alloc_size]; omega) (wr.heap.size + 1) (by simp) ?_; intro g7 cap7 w7 hown7 hgr7 hor7 hlt7; have HB7 := Lib.hid (below_own HB.out HOW.out hgr7); have O7 : Hid (OwnI w2.heap.size w7 (.slice (some ⟨g7, 0, none⟩) (m' + 1) cap7) (widK dep k (m' + 1))) := Lib.hid (by unfold OwnI; rw [HN.out, List.length_append, List.map_append, HLM.out]; exact hown7); clear hown7 hgr7 hor7 hlt7)
     go_roundg (dk - m')
     case measure => omega
     case rel => exact ⟨m' + 1, by omega, Lib.hid (Nat.le_succ_of_le HMM.out), O7, HB7⟩
    ·obtain rfl : m' = dk + 1 := by omega
     obtain ⟨g, cap, e0, hg1, hg2⟩ := OwnI.form O.out (by rw [HLM.out]; omega)
     rw [HLM.out] at e0
     simp only [Value.slice.injEq, true_and] at e0
     obtain ⟨rfl, rfl⟩ := e0
     have O' : OwnI w2.heap.size wr (.slice (some ⟨g, 0, none⟩) (widK dep k (dk + 1)).length lc) (widK dep k (dk + 1)) := by rw [HLM.out]; exact O.out
     have xc := O'.cell (j := dk) (by rw [HLM.out]; omega)
     have hval : (widK dep k (dk + 1)).getD dk 0 = (cntD dep k dk : Int) := tab_get _ _ _ _ (by omega)
     obtain ⟨ON, xf⟩ := O'.set (j := dk) (by rw [HLM.out]; omega) ((cntD dep k dk : Int) + 1)
     rw [HLM.out, show (widK dep k (dk + 1)).set dk ((cntD dep k dk : Int) + 1) = widK dep (k + 1) (dk + 1) from by
      have := widK_set (dep := dep) (k := k) (m := dk + 1) (by rw [← HDK.out]; omega)
      rwa [← HDK.out] at this] at ON
     rw [hval] at xc
     have hcl : cntD dep k dk ≤ k := by unfold cntD; have := List.countP_le_length (p := fun j => decide (dep j = dk)) (l := List.range k); simpa using this
     have e1 : IntKind.i64.wrap ((cntD dep k dk : Int) + 1) = (cntD dep k dk : Int) + 1 := IntWalk.i64_in _ (by omega)
     have ON := Lib.hid ON
     have HBN := Lib.hid (HB.out.setCell (p := ⟨g, dk, none⟩) hg1 (.int .i64 ((cntD dep k dk : Int) + 1)))
     have z3 : ¬ ((dk + 1 : Nat) : Int) ≤ (dk : Int) := by omega
     clear O O' hval HLM HZ
     generalize cntD dep k dk = cd at *
     go_wp2_with fail
     go_roundg (DL.length - (k + 1))
     case measure => omega
     case rel => exact ⟨k + 1, dk + 1, by omega, by simp, ON, Lib.hid (by rw [HDK.out]; rfl), HBN⟩
  ·obtain rfl : k = DL.length := by omega
   have z1 : ¬ (DL.length : Int) < (DL.length : Int) := by omega
   have HM2 : Hid (m = dep (n - 1) + 1) := Lib.hid (by have h1 := HM.out; have h2 := HDL.out.1; rw [h2, if_neg (by omega)] at h1; exact h1)
   clear HM
   go_wp2_with fail
   go_ret
   exact ⟨_, rfl, by have h3 := O.out.ints; rw [HM2.out, HDL.out.1] at h3; rw [HWL.out]; have h4 := HM2.out; subst h4; exact h3, S2.out.below.trans (HB.out.mono S2.out.below.size)⟩
end Go.Proofs.Ytlhpjfnfemebdaa
