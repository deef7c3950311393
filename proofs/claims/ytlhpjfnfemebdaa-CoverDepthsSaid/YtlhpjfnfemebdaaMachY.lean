/-
  A copy of a configuration: the walk.
-/
import Derived.Test.YtlhpjfnfemebdaaBuild
import Derived.Test.YtlhpjfnfemebdaaJMachP
import Derived.Test.YtlhpjfnfemebdaaJMachX
namespace Go.Proofs.Ytlhpjfnfemebdaa
open Go.RowKit
theorem own_none (v : Value) : v.ownBlock = none ∨ v.ownBlock ≠ none := by cases v.ownBlock <;> simp
theorem OwnI.kept2 {base : Nat} {w w' : World} {v : Value} {l : List Int} {o : Obj} {u : Value} (h : OwnI base w v l) (hg : (w.alloc o).grownBy w' u.ownBlock) (ha : AP v u) : OwnI base w' v l :=
 World.ownsRow.kept (World.ownsRow.alloc h o) hg (by
  cases hv : v.ownBlock with
  | none => exact .inl rfl
  | some q => exact .inr (fun e => ha q hv e.symm))
theorem OwnI.kept0 {base : Nat} {w w' : World} {v : Value} {l : List Int} (h : OwnI base w v l) (hg : w.grownBy w' none) : OwnI base w' v l := World.ownsRow.kept h hg (own_none _)
theorem OwnI.setlow {base : Nat} {w : World} {v : Value} {l : List Int} (h : OwnI base w v l) {b i : Nat} (hb : b < base) (x : Value) : OwnI base (w.setCell ⟨b, i, none⟩ x) v l := ownsRow_setCell_below h hb x
theorem OwnRs.kept0 {base : Nat} {w w' : World} {v : Value} {rows : List (List Int)} {vals : List Value} (h : OwnRs base w v rows vals) (hg : w.grownBy w' none) : OwnRs base w' v rows vals :=
 ⟨h.len, World.ownsRow.kept h.out hg (own_none _), fun j hj => (h.inn j hj).kept0 hg⟩
theorem OwnRs.setlow {base : Nat} {w : World} {v : Value} {rows : List (List Int)} {vals : List Value} (h : OwnRs base w v rows vals) {b i : Nat} (hb : b < base) (x : Value) : OwnRs base (w.setCell ⟨b, i, none⟩ x) v rows vals :=
 ⟨h.len, ownsRow_setCell_below h.out hb x, fun j hj => (h.inn j hj).setlow hb x⟩
theorem OwnRs.push {base : Nat} {w w' : World} {v v' r : Value} {rows : List (List Int)} {vals : List Value} {row : List Int} {o : Obj} (h : OwnRs base w v rows vals) (hr : OwnI base w r row) (hg : (w.alloc o).grownBy w' v.ownBlock) (hout : w'.ownsRow base 22 1 v' (rows.length + 1) (vals ++ [r])) (hap : ∀ j, j < rows.length → AP (vals.getD j undef) v) (hr2 : AP r v) : OwnRs base w' v' (rows ++ [row]) (vals ++ [r]) := by
 have hl := h.len
 refine ⟨by simp [hl], by rw [List.length_append]; exact hout, fun j hj => ?_⟩
 rw [List.length_append, List.length_singleton] at hj
 by_cases e : j < rows.length
 ·rw [List.getD_eq_getElem?_getD, List.getElem?_append_left (by omega), ← List.getD_eq_getElem?_getD, List.getD_eq_getElem?_getD (l := rows ++ [row]), List.getElem?_append_left e, ← List.getD_eq_getElem?_getD]
  exact (h.inn j e).kept2 hg (hap j e)
 ·obtain rfl : j = rows.length := by omega
  rw [List.getD_eq_getElem?_getD, List.getElem?_append_right (by omega), List.getD_eq_getElem?_getD (l := rows ++ [row]), List.getElem?_append_right (Nat.le_refl _)]
  simp only [hl, Nat.sub_self]
  exact hr.kept2 hg hr2
theorem OwnRs.kept2 {base : Nat} {w w' : World} {v : Value} {rows : List (List Int)} {vals : List Value} {o : Obj} {u : Value} (h : OwnRs base w v rows vals) (hg : (w.alloc o).grownBy w' u.ownBlock) (ha : AP v u) (hi : ∀ x ∈ vals, AP x u) : OwnRs base w' v rows vals :=
 ⟨h.len, World.ownsRow.kept (World.ownsRow.alloc h.out o) hg (by
  cases hv : v.ownBlock with
  | none => exact .inl rfl
  | some q => exact .inr (fun e => ha q hv e.symm)), fun j hj => (h.inn j hj).kept2 hg (hi _ (by simp [List.getD, show j < vals.length by have := h.len; omega]))⟩
theorem OwnE.kept2 {base : Nat} {w w' : World} {v : Value} {l : List En} {o : Obj} {u : Value} (h : OwnE base w v l) (hg : (w.alloc o).grownBy w' u.ownBlock) (ha : AP v u) : OwnE base w' v l :=
 World.ownsRow.kept (World.ownsRow.alloc h o) hg (by
  cases hv : v.ownBlock with
  | none => exact .inl rfl
  | some q => exact .inr (fun e => ha q hv e.symm))
theorem OwnE.kept0 {base : Nat} {w w' : World} {v : Value} {l : List En} (h : OwnE base w v l) (hg : w.grownBy w' none) : OwnE base w' v l := World.ownsRow.kept h hg (own_none _)
theorem OwnE.setlow {base : Nat} {w : World} {v : Value} {l : List En} (h : OwnE base w v l) {b i : Nat} (hb : b < base) (x : Value) : OwnE base (w.setCell ⟨b, i, none⟩ x) v l := ownsRow_setCell_below h hb x
theorem OwnBs.kept0 {base : Nat} {w w' : World} {v : Value} {rows : List (List En)} {vals : List Value} (h : OwnBs base w v rows vals) (hg : w.grownBy w' none) : OwnBs base w' v rows vals :=
 ⟨h.len, World.ownsRow.kept h.out hg (own_none _), fun j hj => (h.inn j hj).kept0 hg⟩
theorem OwnBs.setlow {base : Nat} {w : World} {v : Value} {rows : List (List En)} {vals : List Value} (h : OwnBs base w v rows vals) {b i : Nat} (hb : b < base) (x : Value) : OwnBs base (w.setCell ⟨b, i, none⟩ x) v rows vals :=
 ⟨h.len, ownsRow_setCell_below h.out hb x, fun j hj => (h.inn j hj).setlow hb x⟩
theorem OwnBs.push {base : Nat} {w w' : World} {v v' r : Value} {rows : List (List En)} {vals : List Value} {row : List En} {o : Obj} (h : OwnBs base w v rows vals) (hr : OwnE base w r row) (hg : (w.alloc o).grownBy w' v.ownBlock) (hout : w'.ownsRow base 99 1 v' (rows.length + 1) (vals ++ [r])) (hap : ∀ j, j < rows.length → AP (vals.getD j undef) v) (hr2 : AP r v) : OwnBs base w' v' (rows ++ [row]) (vals ++ [r]) := by
 have hl := h.len
 refine ⟨by simp [hl], by rw [List.length_append]; exact hout, fun j hj => ?_⟩
 rw [List.length_append, List.length_singleton] at hj
 by_cases e : j < rows.length
 ·rw [List.getD_eq_getElem?_getD, List.getElem?_append_left (by omega), ← List.getD_eq_getElem?_getD, List.getD_eq_getElem?_getD (l := rows ++ [row]), List.getElem?_append_left e, ← List.getD_eq_getElem?_getD]
  exact (h.inn j e).kept2 hg (hap j e)
 ·obtain rfl : j = rows.length := by omega
  rw [List.getD_eq_getElem?_getD, List.getElem?_append_right (by omega), List.getD_eq_getElem?_getD (l := rows ++ [row]), List.getElem?_append_right (Nat.le_refl _)]
  simp only [hl, Nat.sub_self]
  exact hr.kept2 hg hr2
theorem OwnRs.lts {base : Nat} {w : World} {v : Value} {rows : List (List Int)} {vals : List Value} (h : OwnRs base w v rows vals) : ∀ x ∈ vals, ∀ q, x.ownBlock = some q → q < w.heap.size := fun x hx q e => by
 obtain ⟨j, hj, rfl⟩ := List.getElem_of_mem hx
 have := h.inn j (by rw [← h.len]; exact hj)
 rw [List.getD_eq_getElem?_getD, List.getElem?_eq_getElem hj] at this
 exact (World.ownsRow.lt this q e).2
theorem OwnBs.lts {base : Nat} {w : World} {v : Value} {rows : List (List En)} {vals : List Value} (h : OwnBs base w v rows vals) : ∀ x ∈ vals, ∀ q, x.ownBlock = some q → q < w.heap.size := fun x hx q e => by
 obtain ⟨j, hj, rfl⟩ := List.getElem_of_mem hx
 have := h.inn j (by rw [← h.len]; exact hj)
 rw [List.getD_eq_getElem?_getD, List.getElem?_eq_getElem hj] at this
 exact (World.ownsRow.lt this q e).2
theorem OwnC.setlow {base : Nat} {w : World} {vp vr vm vb : Value} {rv bv : List Value} {c : Cf} (h : OwnC base w vp vr vm vb rv bv c) {b i : Nat} (hb : b < base) (x : Value) : OwnC base (w.setCell ⟨b, i, none⟩ x) vp vr vm vb rv bv c :=
 ⟨h.pc.setlow hb x, h.regs.setlow hb x, h.mem.setlow hb x, h.buf.setlow hb x, h.apart⟩
theorem OwnC.low {base base' : Nat} {w : World} {vp vr vm vb : Value} {rv bv : List Value} {c : Cf} (h : OwnC base w vp vr vm vb rv bv c) (hb : base' ≤ base) : OwnC base' w vp vr vm vb rv bv c :=
 ⟨ownlow h.pc hb, ⟨h.regs.len, ownlow h.regs.out hb, fun j hj => ownlow (h.regs.inn j hj) hb⟩, ownlow h.mem hb, ⟨h.buf.len, ownlow h.buf.out hb, fun j hj => ownlow (h.buf.inn j hj) hb⟩, h.apart⟩
set_option maxRecDepth 100000 in
set_option maxHeartbeats 64000000 in
theorem copy_ok (cv : Value) (c : Cf) (w : World) (hc : CfV w cv c) (hl : CfL' c) :
  Calls Try.prog 68 #[cv] w fun r w' => ∃ vp vr vm vb rv bv, r = .returned (.agg #[vp, vr, vm, vb]) ∧ OwnC w.heap.size w' vp vr vm vb rv bv c ∧ Below w.heap.size w w' := by
 obtain ⟨i0, hi0, hz0, hz1, hz2⟩ := info_parts Try.info3
 obtain ⟨i2, hi2, hy0, hy1, hy2⟩ := info_parts infoI22
 obtain ⟨i3, hi3, hx0, hx1, hx2⟩ := info_parts Try.info103
 obtain ⟨i4, hi4, hv0, hv1, hv2⟩ := info_parts infoE99
 obtain ⟨pa, pac, ra, rac, ma, mac, ba, bac, rfl, hp, hr, hm, hb⟩ := hc.var
 have l1 := hl.pc
 have l2 := hl.mem
 have l3 := hl.regs
 have l4 := hl.buf
 have HL5 := Lib.hid hl.rows
 have HL6 := Lib.hid hl.bufs
 have C0 : Hid (CpM w (((w.alloc (.cells #[.slice pa c.pc.length pac, .slice ra c.regs.length rac, .slice ma c.mem.length mac, .slice ba c.buf.length bac] 52)).alloc (.cells #[.slice none 0 0, .slice none 0 0, .slice none 0 0, .slice none 0 0] 52)).alloc (.cells #[.slice none 0 0, .slice none 0 0, .slice none 0 0, .slice none 0 0] 52)) #[.slice pa c.pc.length pac, .slice ra c.regs.length rac, .slice ma c.mem.length mac, .slice ba c.buf.length bac] (.slice none 0 0) (.slice none 0 0) (.slice none 0 0) (.slice none 0 0)) := Lib.hid ⟨(balloc w _).trans (((balloc _ _).mono (balloc w _).size).trans ((balloc _ _).mono (Nat.le_trans (balloc w _).size (balloc _ _).size))), bheap (balloc _ _) (bheap (balloc _ _) (heap_alloc_new w _)), by
   have := heap_alloc_new (w.alloc (.cells #[.slice pa c.pc.length pac, .slice ra c.regs.length rac, .slice ma c.mem.length mac, .slice ba c.buf.length bac] 52)) (.cells #[.slice none 0 0, .slice none 0 0, .slice none 0 0, .slice none 0 0] 52)
   have := bheap (balloc _ (.cells #[.slice none 0 0, .slice none 0 0, .slice none 0 0, .slice none 0 0] 52)) this
   simpa using this, by
   have := heap_alloc_new ((w.alloc (.cells #[.slice pa c.pc.length pac, .slice ra c.regs.length rac, .slice ma c.mem.length mac, .slice ba c.buf.length bac] 52)).alloc (.cells #[.slice none 0 0, .slice none 0 0, .slice none 0 0, .slice none 0 0] 52)) (.cells #[.slice none 0 0, .slice none 0 0, .slice none 0 0, .slice none 0 0] 52)
   simpa using this⟩
 have HP := Lib.hid ((hp.below C0.out.low).src)
 have HR := Lib.hid hr
 have HM := Lib.hid hm
 have HBF := Lib.hid hb
 clear hc hl hp hr hm hb
 go_enter Try.func68, Try.ntmps68
 go_wp2_with (first
  | (at_builtin; refine wp_gcopy rfl (.tmp 16) (.tmp 18) rfl Try.underlying22 hi0 hz0 hz1 hz2 rfl (by decide) (w.heap.size + 3) rfl rfl HM4.out (by omega) (by omega) C2.out.size ?_; intro ad6 cap6 w6 hown6 hgr6 hor6; have OM6 := Lib.hid (show OwnI (w.heap.size + 3) w6 (.slice ad6 c.mem.length cap6) c.mem from hown6); have OP6 := Lib.hid (show OwnI (w.heap.size + 3) w6 (.slice ad4 c.pc.length cap4) c.pc from World.ownsRow.kept OP5.out hgr6 (own_none _)); have HAP := Lib.hid (show AP (.slice ad4 c.pc.length cap4) (.slice ad6 c.mem.length cap6) from AP.fresh (fun q h => (World.ownsRow.lt OP5.out q h).2) (fun q h => Nat.le_of_eq (hor6 q h).symm)); have C6 := Lib.hid (C2.out.grown hgr6 (fun k hk => by cases hk)); clear hown6 hgr6 a1 a2 a3 d0 d1 d2 d3 f0 f1 f2 f3; have d2 := cell_of_block C6.out.bd 2 _ rfl; have f2 := free_of_block C6.out.bd 2)
  | (at_builtin; refine wp_gcopy rfl (.tmp 10) (.tmp 12) rfl Try.underlying22 hi0 hz0 hz1 hz2 rfl (by decide) (w.heap.size + 3) rfl rfl HP.out (by omega) (by omega) C0.out.size ?_; intro ad4 cap4 w4 hown4 hgr4 hor4; have OP4 := Lib.hid (show OwnI (w.heap.size + 3) w4 (.slice ad4 c.pc.length cap4) c.pc from hown4); have C1 := Lib.hid (C0.out.grown hgr4 (fun k hk => by cases hk)); have C2 := Lib.hid (C1.out.put0 (.slice ad4 c.pc.length cap4)); have OP5 := Lib.hid (show OwnI (w.heap.size + 3) (w4.setCell ⟨w.heap.size + 1 + 1, 0, none⟩ (.slice ad4 c.pc.length cap4)) (.slice ad4 c.pc.length cap4) c.pc from ownsRow_setCell_below OP4.out (by show w.heap.size + 1 + 1 < w.heap.size + 3; omega) _); have HM4 := Lib.hid ((HM.out.below C2.out.low).src); clear hown4 hgr4; have d0 := cell_of_block C1.out.bd 0 _ rfl; have f0 := free_of_block C1.out.bd 0; have a1 := cell_of_block C2.out.bc 1 _ rfl; have a2 := cell_of_block C2.out.bc 2 _ rfl; have a3 := cell_of_block C2.out.bc 3 _ rfl; have d1 := cell_of_block C2.out.bd 1 _ rfl; have d2 := cell_of_block C2.out.bd 2 _ rfl; have d3 := cell_of_block C2.out.bd 3 _ rfl; have f1 := free_of_block C2.out.bd 1; have f2 := free_of_block C2.out.bd 2; have f3 := free_of_block C2.out.bd 3))
 have C7 := Lib.hid (C6.out.put2 (.slice ad6 c.mem.length cap6))
 have OP7 := Lib.hid (OP6.out.setlow (b := w.heap.size + 1 + 1) (i := 2) (by omega) (.slice ad6 c.mem.length cap6))
 have OM7 := Lib.hid (OM6.out.setlow (b := w.heap.size + 1 + 1) (i := 2) (by omega) (.slice ad6 c.mem.length cap6))
 clear d2 f2 C0 C1 C2 C6 OP4 OP5 OP6 OM6 HM4 hor4 hor6 HP HM
 generalize w6.setCell ⟨w.heap.size + 1 + 1, 2, none⟩ (.slice ad6 c.mem.length cap6) = w7 at *
 generalize Value.slice ad4 c.pc.length cap4 = vp at *
 generalize Value.slice ad6 c.mem.length cap6 = vm at *
 go_loopg [4] c.regs.length (fun fu q wr => ∃ (k : Nat) (rv : List Value) (vr : Value), k + fu = c.regs.length ∧ q = .int .i64 k ∧ Hid (CpM w wr #[.slice pa c.pc.length pac, .slice ra c.regs.length rac, .slice ma c.mem.length mac, .slice ba c.buf.length bac] vp vr vm (.slice none 0 0)) ∧ Hid (OwnI (w.heap.size + 3) wr vp c.pc) ∧ Hid (OwnI (w.heap.size + 3) wr vm c.mem) ∧ Hid (OwnRs (w.heap.size + 3) wr vr (c.regs.take k) rv) ∧ Hid ((vp :: vr :: vm :: rv).Pairwise AP))
 case atStart => exact ⟨0, [], .slice none 0 0, by omega, rfl, C7, OP7, OM7, Lib.hid ⟨rfl, World.ownsRow_nil _ _ _ _, fun j hj => by simp at hj⟩, Lib.hid (by
  have hn : ∀ v, AP v (.slice none 0 0) := fun v q h1 h2 => by cases h2
  refine List.pairwise_cons.2 ⟨fun x hx => ?_, List.pairwise_cons.2 ⟨fun x hx => ?_, List.pairwise_cons.2 ⟨fun x hx => (by cases hx), List.Pairwise.nil⟩⟩⟩
  ·rcases List.mem_cons.1 hx with rfl | hx
   ·exact hn _
   ·rw [List.mem_singleton.1 hx]; exact HAP.out
  ·exact (hn _).symm)⟩
 case round =>
  clear C7 OP7 OM7 HAP
  obtain ⟨k, rv, vr, hk, rfl, C, OP, OM, OR, PW⟩ := hrel
  have a1 := cell_of_block C.out.bc 1 (.slice ra c.regs.length rac) rfl
  by_cases hlt : k < c.regs.length
  ·have z1 : (k : Int) < (c.regs.length : Int) := by omega
   obtain ⟨t1, t2, t3, hrow⟩ := HR.out
   cases t3
   obtain ⟨b1, o1, u1, rfl, x1, hin⟩ := hrow k hlt
   have x1 := bkeep C.out.low x1
   have hsr := HL5.out k hlt
   have HSR := Lib.hid ((hin.below C.out.low).src)
   have htk : c.regs.take (k + 1) = c.regs.take k ++ [c.regs.getD k []] := by
    rw [List.take_add_one, List.getElem?_eq_getElem hlt, List.getD_eq_getElem?_getD, List.getElem?_eq_getElem hlt]; rfl
   have hlk : (c.regs.take k).length = k := by rw [List.length_take]; omega
   have HTK := Lib.hid htk
   have HLK := Lib.hid hlk
   obtain ⟨ua, uc, rfl, -⟩ := hin
   clear hrow htk
   generalize c.regs.getD k [] = row at *
   obtain ⟨vra, vrc, hvr⟩ := ownv OR.out.out
   rw [hlk] at hvr
   subst hvr
   have hol : k ≤ 1000 := by omega
   go_wp2_with (first
    | (at_builtin; refine wpList_append_lies (w5.alloc (.cells #[.slice ad5 row.length cap5] 22)) rfl (.tmp 36) (.tmp 38) 49 rfl (w.heap.size + 3) 22 i2 (.slice none 0 0) 1 24 Try.underlying49 hi2 hy0 hy1 hy2 rfl (by decide) (.slice vra k vrc) k rv rfl (World.ownsRow.alloc (by have := OR5.out.out; rw [HLK.out] at this; exact this) _) ⟨w5.heap.size, 0, none⟩ 1 1 [.slice ad5 row.length cap5] rfl rfl (World.news_of_block (heap_alloc_new _ _)) (by simp [Value.oneCell']) (by omega) (by unfold maxLen; omega) (by omega) (by have := C5.out.size; simp; omega) (w5.heap.size + 1) (by simp) ?_; intro g8 cap8 w8 hown8 hgr8 hor8 hlt8; have HO8 := Lib.hid hown8; have HG8 := Lib.hid hgr8; have HR8 := Lib.hid hor8; have C8 := Lib.hid ((C5.out.alloc (.cells #[.slice ad5 row.length cap5] 22)).grown hgr8 (fun q hq => (OR5.out.out.lt q hq).1)); clear hgr8 hown8 hor8 a1 d1 f1; have d1 := cell_of_block C8.out.bd 1 _ rfl; have f1 := free_of_block C8.out.bd 1)
    | (at_builtin; refine wp_gcopy rfl (.tmp 28) (.tmp 33) rfl Try.underlying22 hi0 hz0 hz1 hz2 rfl (by decide) (w.heap.size + 3) rfl rfl HSR.out (by omega) (by omega) C.out.size ?_; intro ad5 cap5 w5 hown5 hgr5 hor5; have O5 := Lib.hid (show OwnI (w.heap.size + 3) w5 (.slice ad5 row.length cap5) row from hown5); have HR5 := Lib.hid hor5; have HZ5 := Lib.hid hgr5.size; have C5 := Lib.hid (C.out.grown hgr5 (fun q hq => by cases hq)); have OP5 := Lib.hid (OP.out.kept0 hgr5); have OM5 := Lib.hid (OM.out.kept0 hgr5); have OR5 := Lib.hid (OR.out.kept0 hgr5); clear hown5 hgr5 hor5 a1; have a1 := cell_of_block C5.out.bc 1 _ rfl; have d1 := cell_of_block C5.out.bd 1 _ rfl; have f1 := free_of_block C5.out.bd 1))
   go_roundg (c.regs.length - (k + 1))
   case measure => omega
   case rel =>
    obtain ⟨p1, p2⟩ := List.pairwise_cons.1 PW.out
    obtain ⟨p3, p4⟩ := List.pairwise_cons.1 p2
    have hB : w.heap.size + 1 + 1 < w.heap.size + 3 := by omega
    have apv : AP vp (.slice vra k vrc) := p1 _ (List.mem_cons_self ..)
    have amv : AP vm (.slice vra k vrc) := (p3 _ (List.mem_cons_self ..)).symm
    have hrl : rv.length = k := by have := OR.out.len; rw [HLK.out] at this; exact this
    have arv : ∀ x ∈ rv, AP x (.slice vra k vrc) := fun x hx => (p3 x (List.mem_cons_of_mem _ hx)).symm
    have ltv : ∀ q, Value.ownBlock (.slice vra k vrc) = some q → q < wr.heap.size := fun q h => (OR.out.out.lt q h).2
    have ltr : ∀ x ∈ rv, ∀ q, x.ownBlock = some q → q < wr.heap.size := fun x hx q h => by
     obtain ⟨j, hj, rfl⟩ := List.getElem_of_mem hx
     have := OR.out.inn j (by rw [HLK.out]; omega)
     rw [List.getD_eq_getElem?_getD, List.getElem?_eq_getElem hj] at this
     exact (World.ownsRow.lt this q h).2
    have ar5 : AP (.slice ad5 row.length cap5) (.slice vra k vrc) := (AP.fresh ltv (fun q h => Nat.le_of_eq (HR5.out q h).symm)).symm
    have PN := ap_new (V := vp :: .slice vra k vrc :: vm :: rv) (U := []) (v := .slice ad5 row.length cap5) (N := wr.heap.size) (by rw [List.append_nil]; exact PW.out) (fun x hx q h => by
     rw [List.append_nil] at hx
     rcases List.mem_cons.1 hx with rfl | hx
     ·exact (World.ownsRow.lt OP.out q h).2
     rcases List.mem_cons.1 hx with rfl | hx
     ·exact ltv q h
     rcases List.mem_cons.1 hx with rfl | hx
     ·exact (World.ownsRow.lt OM.out q h).2
     ·exact ltr x hx q h) (fun q h => Nat.le_of_eq (HR5.out q h).symm)
    have hsz : wr.heap.size ≤ w5.heap.size := by
     exact HZ5.out
    have PG := ap_grow (V := [vp]) (U := vm :: (rv ++ [.slice ad5 row.length cap5])) (v := .slice vra k vrc) (v' := .slice (some ⟨g8, 0, none⟩) (k + 1) cap8) (N := w5.heap.size + 1) (show List.Pairwise AP ([vp] ++ Value.slice vra k vrc :: (vm :: (rv ++ [Value.slice ad5 row.length cap5]))) from PN) (fun x hx q h => by
     rcases List.mem_append.1 hx with hx | hx
     ·rw [List.mem_singleton.1 hx] at h; have := (World.ownsRow.lt OP5.out q h).2; omega
     rcases List.mem_cons.1 hx with rfl | hx
     ·have := (World.ownsRow.lt OM5.out q h).2; omega
     rcases List.mem_append.1 hx with hx | hx
     ·have := ltr x hx q h; omega
     ·rw [List.mem_singleton.1 hx] at h; have := (World.ownsRow.lt O5.out q h).2; omega) (fun q h => by
     obtain rfl : g8 = q := by simpa [Value.ownBlock] using h
     rcases HR8.out with e | e
     ·exact .inl e
     ·exact .inr (Nat.le_of_eq e.symm))
    exact ⟨k + 1, rv ++ [.slice ad5 row.length cap5], _, by omega, by simp, Lib.hid (C8.out.put1 _), Lib.hid ((OP5.out.kept2 HG8.out apv).setlow hB _), Lib.hid ((OM5.out.kept2 HG8.out amv).setlow hB _),
     Lib.hid (by rw [HTK.out]; exact (OwnRs.push OR5.out O5.out HG8.out (by rw [HLK.out]; exact HO8.out) (fun j hj => arv _ (by rw [HLK.out] at hj; simp [List.getD, show j < rv.length by omega])) ar5).setlow hB _), Lib.hid (show List.Pairwise AP (vp :: Value.slice (some ⟨g8, 0, none⟩) (k + 1) cap8 :: vm :: (rv ++ [Value.slice ad5 row.length cap5])) from PG)⟩
  ·have hkk : k = c.regs.length := by omega
   subst hkk
   have OR9 := Lib.hid (show OwnRs (w.heap.size + 3) wr vr c.regs rv by have := OR.out; rwa [List.take_length] at this)
   have PW9 := Lib.hid (show List.Pairwise AP (vp :: vr :: vm :: (.slice none 0 0 : Value) :: (rv ++ [])) from (by
    rw [List.append_nil]
    exact ap_new (V := [vp, vr, vm]) (U := rv) (v := .slice none 0 0) (N := wr.heap.size) PW.out (fun x hx q h => by
     rcases List.mem_append.1 hx with hx | hx
     ·rcases List.mem_cons.1 hx with rfl | hx
      ·exact (World.ownsRow.lt OP.out q h).2
      rcases List.mem_cons.1 hx with rfl | hx
      ·exact (OR.out.out.lt q h).2
      ·rw [List.mem_singleton.1 hx] at h; exact (World.ownsRow.lt OM.out q h).2
     ·exact OR.out.lts x hx q h) (fun q h => by cases h)))
   go_wp2_with fail
   obtain ⟨wq, hwq⟩ : ∃ x, x = wr := ⟨_, rfl⟩
   subst hwq
   clear OR PW a1
   go_loopg [6] c.buf.length (fun fu q wr => ∃ (k : Nat) (bv : List Value) (vb : Value), k + fu = c.buf.length ∧ q = .int .i64 k ∧ Hid (CpM w wr #[.slice pa c.pc.length pac, .slice ra c.regs.length rac, .slice ma c.mem.length mac, .slice ba c.buf.length bac] vp vr vm vb) ∧ Hid (OwnI (w.heap.size + 3) wr vp c.pc) ∧ Hid (OwnI (w.heap.size + 3) wr vm c.mem) ∧ Hid (OwnRs (w.heap.size + 3) wr vr c.regs rv) ∧ Hid (OwnBs (w.heap.size + 3) wr vb (c.buf.take k) bv) ∧ Hid ((vp :: vr :: vm :: vb :: (rv ++ bv)).Pairwise AP))
   case atStart => exact ⟨0, [], .slice none 0 0, by omega, rfl, C, OP, OM, OR9, Lib.hid ⟨rfl, World.ownsRow_nil _ _ _ _, fun j hj => by simp at hj⟩, PW9⟩
   case round =>
    clear C OP OM OR9 PW9
    obtain ⟨k, bv, vb, hk, rfl, C, OP, OM, OR, OB, PW⟩ := hrel
    have a3 := cell_of_block C.out.bc 3 (.slice ba c.buf.length bac) rfl
    by_cases hlt : k < c.buf.length
    ·have z1 : (k : Int) < (c.buf.length : Int) := by omega
     obtain ⟨t1, t2, t3, hrow⟩ := HBF.out
     cases t3
     obtain ⟨b1, o1, u1, rfl, x1, hin⟩ := hrow k hlt
     have x1 := bkeep C.out.low x1
     have hsr := HL6.out k hlt
     have HSR := Lib.hid ((hin.below C.out.low).src)
     have htk : c.buf.take (k + 1) = c.buf.take k ++ [c.buf.getD k []] := by
      rw [List.take_add_one, List.getElem?_eq_getElem hlt, List.getD_eq_getElem?_getD, List.getElem?_eq_getElem hlt]; rfl
     have hlk : (c.buf.take k).length = k := by rw [List.length_take]; omega
     have HTK := Lib.hid htk
     have HLK := Lib.hid hlk
     obtain ⟨ua, uc, rfl, -⟩ := hin
     clear hrow htk
     generalize c.buf.getD k [] = row at *
     obtain ⟨vra, vrc, hvr⟩ := ownv OB.out.out
     rw [hlk] at hvr
     subst hvr
     have hol : k ≤ 1000 := by omega
     go_wp2_with (first
      | (at_builtin; refine wpList_append_lies (w5.alloc (.cells #[.slice ad5 row.length cap5] 99)) rfl (.tmp 56) (.tmp 58) 50 rfl (w.heap.size + 3) 99 i4 (.slice none 0 0) 1 24 Try.underlying50 hi4 hv0 hv1 hv2 rfl (by decide) (.slice vra k vrc) k bv rfl (World.ownsRow.alloc (by have := OB5.out.out; rw [HLK.out] at this; exact this) _) ⟨w5.heap.size, 0, none⟩ 1 1 [.slice ad5 row.length cap5] rfl rfl (World.news_of_block (heap_alloc_new _ _)) (by simp [Value.oneCell']) (by omega) (by unfold maxLen; omega) (by omega) (by have := C5.out.size; simp; omega) (w5.heap.size + 1) (by simp) ?_; intro g8 cap8 w8 hown8 hgr8 hor8 hlt8; have HO8 := Lib.hid hown8; have HG8 := Lib.hid hgr8; have HR8 := Lib.hid hor8; have C8 := Lib.hid ((C5.out.alloc (.cells #[.slice ad5 row.length cap5] 99)).grown hgr8 (fun q hq => (OB5.out.out.lt q hq).1)); clear hgr8 hown8 hor8 a3 d3 f3; have d3 := cell_of_block C8.out.bd 3 _ rfl; have f3 := free_of_block C8.out.bd 3)
      | (at_builtin; refine wp_gcopy rfl (.tmp 48) (.tmp 53) rfl Try.underlying99 hi3 hx0 hx1 hx2 rfl (by decide) (w.heap.size + 3) rfl rfl HSR.out (by omega) (by omega) C.out.size ?_; intro ad5 cap5 w5 hown5 hgr5 hor5; have O5 := Lib.hid (show OwnE (w.heap.size + 3) w5 (.slice ad5 row.length cap5) row from hown5); have HR5 := Lib.hid hor5; have HZ5 := Lib.hid hgr5.size; have C5 := Lib.hid (C.out.grown hgr5 (fun q hq => by cases hq)); have OP5 := Lib.hid (OP.out.kept0 hgr5); have OM5 := Lib.hid (OM.out.kept0 hgr5); have OR5 := Lib.hid (OR.out.kept0 hgr5); have OB5 := Lib.hid (OB.out.kept0 hgr5); clear hown5 hgr5 hor5 a3; have a3 := cell_of_block C5.out.bc 3 _ rfl; have d3 := cell_of_block C5.out.bd 3 _ rfl; have f3 := free_of_block C5.out.bd 3))
     go_roundg (c.buf.length - (k + 1))
     case measure => omega
     case rel =>
      obtain ⟨p1, p2⟩ := List.pairwise_cons.1 PW.out
      obtain ⟨p3, p4⟩ := List.pairwise_cons.1 p2
      obtain ⟨p5, p6⟩ := List.pairwise_cons.1 p4
      obtain ⟨p7, p8⟩ := List.pairwise_cons.1 p6
      have hB : w.heap.size + 1 + 1 < w.heap.size + 3 := by omega
      have m3 : ∀ {a b c : Value} {l : List Value}, c ∈ a :: b :: c :: l := by intro a b c l; simp
      have apv : AP vp (.slice vra k vrc) := p1 _ (by simp)
      have arv : AP vr (.slice vra k vrc) := p3 _ (by simp)
      have amv : AP vm (.slice vra k vrc) := p5 _ (by simp)
      have hbl : bv.length = k := by have := OB.out.len; rw [HLK.out] at this; exact this
      have arr : ∀ x ∈ rv, AP x (.slice vra k vrc) := fun x hx => (p7 x (List.mem_append_left _ hx)).symm
      have abb : ∀ x ∈ bv, AP x (.slice vra k vrc) := fun x hx => (p7 x (List.mem_append_right _ hx)).symm
      have ltv : ∀ q, Value.ownBlock (.slice vra k vrc) = some q → q < wr.heap.size := fun q h => (OB.out.out.lt q h).2
      have ar5 : AP (.slice ad5 row.length cap5) (.slice vra k vrc) := (AP.fresh ltv (fun q h => Nat.le_of_eq (HR5.out q h).symm)).symm
      have PN := ap_new (V := vp :: vr :: vm :: .slice vra k vrc :: (rv ++ bv)) (U := []) (v := .slice ad5 row.length cap5) (N := wr.heap.size) (by rw [List.append_nil]; exact PW.out) (fun x hx q h => by
       rw [List.append_nil] at hx
       rcases List.mem_cons.1 hx with rfl | hx
       ·exact (World.ownsRow.lt OP.out q h).2
       rcases List.mem_cons.1 hx with rfl | hx
       ·exact (OR.out.out.lt q h).2
       rcases List.mem_cons.1 hx with rfl | hx
       ·exact (World.ownsRow.lt OM.out q h).2
       rcases List.mem_cons.1 hx with rfl | hx
       ·exact ltv q h
       rcases List.mem_append.1 hx with hx | hx
       ·exact OR.out.lts x hx q h
       ·exact OB.out.lts x hx q h) (fun q h => Nat.le_of_eq (HR5.out q h).symm)
      have hsz : wr.heap.size ≤ w5.heap.size := HZ5.out
      have PN2 : List.Pairwise AP ([vp, vr, vm] ++ Value.slice vra k vrc :: (rv ++ (bv ++ [Value.slice ad5 row.length cap5]))) := by
       have e : (vp :: vr :: vm :: .slice vra k vrc :: (rv ++ bv)) ++ [Value.slice ad5 row.length cap5] = [vp, vr, vm] ++ Value.slice vra k vrc :: (rv ++ (bv ++ [Value.slice ad5 row.length cap5])) := by simp
       rw [← e]; exact PN
      have PG := ap_grow (v' := .slice (some ⟨g8, 0, none⟩) (k + 1) cap8) (N := w5.heap.size + 1) PN2 (fun x hx q h => by
       rcases List.mem_append.1 hx with hx | hx
       ·rcases List.mem_cons.1 hx with rfl | hx
        ·have := (World.ownsRow.lt OP.out q h).2; omega
        rcases List.mem_cons.1 hx with rfl | hx
        ·have := (OR.out.out.lt q h).2; omega
        ·rw [List.mem_singleton.1 hx] at h; have := (World.ownsRow.lt OM.out q h).2; omega
       rcases List.mem_append.1 hx with hx | hx
       ·have := OR.out.lts x hx q h; omega
       rcases List.mem_append.1 hx with hx | hx
       ·have := OB.out.lts x hx q h; omega
       ·rw [List.mem_singleton.1 hx] at h; have := (World.ownsRow.lt O5.out q h).2; omega) (fun q h => by
       obtain rfl : g8 = q := by simpa [Value.ownBlock] using h
       rcases HR8.out with e | e
       ·exact .inl e
       ·exact .inr (Nat.le_of_eq e.symm))
      exact ⟨k + 1, bv ++ [.slice ad5 row.length cap5], _, by omega, by simp, Lib.hid (C8.out.put3 _), Lib.hid ((OP5.out.kept2 HG8.out apv).setlow hB _), Lib.hid ((OM5.out.kept2 HG8.out amv).setlow hB _), Lib.hid ((OR5.out.kept2 HG8.out arv arr).setlow hB _),
       Lib.hid (by rw [HTK.out]; exact (OwnBs.push OB5.out O5.out HG8.out (by rw [HLK.out]; exact HO8.out) (fun j hj => abb _ (by rw [HLK.out] at hj; simp [List.getD, show j < bv.length by omega])) ar5).setlow hB _), Lib.hid (show List.Pairwise AP (vp :: vr :: vm :: Value.slice (some ⟨g8, 0, none⟩) (k + 1) cap8 :: (rv ++ (bv ++ [Value.slice ad5 row.length cap5]))) from PG)⟩
    ·have hkk : k = c.buf.length := by omega
     subst hkk
     have OB9 := Lib.hid (show OwnBs (w.heap.size + 3) wr vb c.buf bv by have := OB.out; rwa [List.take_length] at this)
     have d0 := cell_of_block C.out.bd 0 vp rfl
     have d1 := cell_of_block C.out.bd 1 vr rfl
     have d2 := cell_of_block C.out.bd 2 vm rfl
     have d3 := cell_of_block C.out.bd 3 vb rfl
     have r0 := cell_of_block C.out.br 0 (.slice none 0 0) rfl
     have r1 := cell_of_block C.out.br 1 (.slice none 0 0) rfl
     have r2 := cell_of_block C.out.br 2 (.slice none 0 0) rfl
     have r3 := cell_of_block C.out.br 3 (.slice none 0 0) rfl
     have f0 := free_of_block C.out.br 0
     have f1 := free_of_block C.out.br 1
     have f2 := free_of_block C.out.br 2
     have f3 := free_of_block C.out.br 3
     obtain ⟨s0, t0, rfl⟩ := ownv OP.out
     obtain ⟨s1, t1, rfl⟩ := ownv OR.out.out
     obtain ⟨s2, t2, rfl⟩ := ownv OM.out
     obtain ⟨s3, t3, rfl⟩ := ownv OB9.out.out
     go_wp2_with fail
     have OC : OwnC (w.heap.size + 3) wr (.slice s0 c.pc.length t0) (.slice s1 c.regs.length t1) (.slice s2 c.mem.length t2) (.slice s3 c.buf.length t3) rv bv c := ⟨OP.out, OR.out, OM.out, OB9.out, PW.out⟩
     have hB : w.heap.size + 1 < w.heap.size + 3 := by omega
     have OF := ((((OC.setlow (i := 0) hB (.slice s0 c.pc.length t0)).setlow (i := 1) hB (.slice s1 c.regs.length t1)).setlow (i := 2) hB (.slice s2 c.mem.length t2)).setlow (i := 3) hB (.slice s3 c.buf.length t3)).low (show w.heap.size ≤ w.heap.size + 3 by omega)
     have kb := heap_setCell_block (i := 3) (v := .slice s3 c.buf.length t3) (heap_setCell_block (i := 2) (v := .slice s2 c.mem.length t2) (heap_setCell_block (i := 1) (v := .slice s1 c.regs.length t1) (heap_setCell_block (i := 0) (v := .slice s0 c.pc.length t0) C.out.br)))
     have g0 := cell_of_block kb 0 (.slice s0 c.pc.length t0) rfl
     have g1 := cell_of_block kb 1 (.slice s1 c.regs.length t1) rfl
     have g2 := cell_of_block kb 2 (.slice s2 c.mem.length t2) rfl
     have g3 := cell_of_block kb 3 (.slice s3 c.buf.length t3) rfl
     have hW : w.heap.size ≤ w.heap.size + 1 := by omega
     have BF := (((C.out.low.setCell (p := ⟨w.heap.size + 1, 0, none⟩) hW (.slice s0 c.pc.length t0)).setCell (p := ⟨w.heap.size + 1, 1, none⟩) hW (.slice s1 c.regs.length t1)).setCell (p := ⟨w.heap.size + 1, 2, none⟩) hW (.slice s2 c.mem.length t2)).setCell (p := ⟨w.heap.size + 1, 3, none⟩) hW (.slice s3 c.buf.length t3)
     refine bodyPost_ret (v := .agg #[.slice s0 c.pc.length t0, .slice s1 c.regs.length t1, .slice s2 c.mem.length t2, .slice s3 c.buf.length t3]) (by simp [results, Try.results68, go_sem, g0, g1, g2, g3]) rfl ?_
     exact ⟨_, _, _, _, rv, bv, rfl, OF, BF⟩
end Go.Proofs.Ytlhpjfnfemebdaa
