/-
  A configuration's place among others. Those that can act. All that can be reached, plain: a space, how it grows, what holds of it. What a space has, plain: how far configurations are, how many how far, who acts how often, what is done. A space as a value; what stays whatever turns in some blocks. Where a program begins: conf.Start. (Written by gen_start.py.)
-/
import Derived.Test.YtlhpjfnfemebdaaJMachT
import Derived.Test.YtlhpjfnfemebdaaJMachQ
import Derived.Test.YtlhpjfnfemebdaaJPartsMem
import Derived.Test.YtlhpjfnfemebdaaOut
import Derived.Test.YtlhpjfnfemebdaaActB
import Derived.Test.YtlhpjfnfemebdaaJMachX
import Derived.Test.YtlhpjfnfemebdaaJAnyRel
namespace Go.Proofs.Ytlhpjfnfemebdaa
open Go.RowKit
def cf0 : Cf := ⟨[], [], [], []⟩
def ConfsAt (w : World) (v : Value) (cs : List Cf) : Prop := ∃ a cap, v = .slice a cs.length cap ∧ ∀ j, j < cs.length → ∃ b o vp vr vm vb, a = some ⟨b, o, none⟩ ∧ w.cell? ⟨b, o + j * 4, none⟩ = some vp ∧ w.cell? ⟨b, o + j * 4 + 1, none⟩ = some vr ∧ w.cell? ⟨b, o + j * 4 + 2, none⟩ = some vm ∧ w.cell? ⟨b, o + j * 4 + 3, none⟩ = some vb ∧ CfV w (.agg #[vp, vr, vm, vb]) (cs.getD j cf0)
theorem ConfsAt.below {w w' : World} {v : Value} {cs : List Cf} (h : ConfsAt w v cs) (hb : Below w.heap.size w w') : ConfsAt w' v cs :=
 let ⟨a, c, e, h1⟩ := h
 ⟨a, c, e, fun j hj => let ⟨b, o, vp, vr, vm, vb, e, h2, h3, h4, h5, h6⟩ := h1 j hj; ⟨b, o, vp, vr, vm, vb, e, bkeep hb h2, bkeep hb h3, bkeep hb h4, bkeep hb h5, h6.below hb⟩⟩
def findK (cs : List Cf) (c : Cf) : Nat → Nat → Int
 | _, 0 => -1
 | k, d + 1 => if sameC (cs.getD k cf0) c = true then (k : Int) else findK cs c (k + 1) d
def findC (cs : List Cf) (c : Cf) : Int := findK cs c 0 cs.length
theorem findK_hit {cs : List Cf} {c : Cf} {k d : Nat} (h : sameC (cs.getD k cf0) c = true) : findK cs c k (d + 1) = (k : Int) := by rw [findK, if_pos h]
theorem findK_next {cs : List Cf} {c : Cf} {k d : Nat} (h : sameC (cs.getD k cf0) c = false) : findK cs c k (d + 1) = findK cs c (k + 1) d := by rw [findK, h]; exact if_neg (by simp)
structure CfL (c : Cf) : Prop where
 pc : c.pc.length ≤ 1000
 mem : c.mem.length ≤ 1000
 regs : c.regs.length ≤ 1000
 buf : c.buf.length ≤ 1000
 rows : ∀ k, k < c.regs.length → (c.regs.getD k []).length ≤ 1000000
 bufs : ∀ k, k < c.buf.length → (c.buf.getD k []).length ≤ 1000000
set_option maxRecDepth 100000 in
set_option maxHeartbeats 32000000 in
theorem find_cf_ok (cv dv v0 v1 v2 v3 v4 : Value) (cs : List Cf) (d : Cf) (w : World) (hc : ConfsAt w cv cs) (hd : CfV w dv d) (hl : cs.length ≤ 1000000) (hs : ∀ c ∈ cs, CfL c) :
  Calls Try.prog 45 #[.agg #[cv, v0, v1, v2, v3, v4], dv] w fun r w' => r = .returned (.int .i64 (findC cs d)) ∧ Below w.heap.size w w' := by
 obtain ⟨pa, pac, ra, rac, ma, mac, ba, bac, rfl, -⟩ := hd.var
 have HS := Lib.hid (fun (j : Nat) (hj : j < cs.length) => hs (cs.getD j cf0) (by simp [List.getD, hj]))
 obtain ⟨ca, cc, rfl, hcs⟩ := hc
 have HCS := Lib.hid hcs
 have HD := Lib.hid hd
 have S0 := Lib.hid (Bx2.start w #[.slice ca cs.length cc, v0, v1, v2, v3, v4] 32 #[.slice pa d.pc.length pac, .slice ra d.regs.length rac, .slice ma d.mem.length mac, .slice ba d.buf.length bac] 52)
 have HHIT := Lib.hid (fun (k n : Nat) (h : sameC (cs.getD k cf0) d = true) => findK_hit (d := n) h)
 have HNXT := Lib.hid (fun (k n : Nat) (h : sameC (cs.getD k cf0) d = false) => findK_next (d := n) h)
 have HST : Hid (findC cs d = findK cs d 0 cs.length) := Lib.hid rfl
 have HEN : Hid (∀ k, findK cs d k 0 = -1) := Lib.hid (fun k => by rw [findK])
 clear hs hcs hd
 generalize findC cs d = RES at *
 generalize findK cs d = FK at *
 generalize hw2 : (w.alloc (.cells #[.slice ca cs.length cc, v0, v1, v2, v3, v4] 32)).alloc (.cells #[.slice pa d.pc.length pac, .slice ra d.regs.length rac, .slice ma d.mem.length mac, .slice ba d.buf.length bac] 52) = w2 at *
 go_enter Try.func45, Try.ntmps45
 go_wp2_with fail
 clear hw2
 go_loopg [5] cs.length (fun fu q wr => ∃ k : Nat, k + fu = cs.length ∧ q = .int .i64 k ∧ Hid (RES = FK k fu) ∧ Hid (Below w2.heap.size w2 wr))
 case atStart => exact ⟨0, by omega, rfl, HST, Lib.hid (Below.refl _ _)⟩
 case round =>
  obtain ⟨k, hk, rfl, HR, HB⟩ := hrel
  have S := Lib.hid (S0.out.more HB.out)
  have i0 := cell_of_block S.out.blk1 0 (.slice ca cs.length cc) rfl
  have j0 := cell_of_block S.out.blk2 0 (.slice pa d.pc.length pac) rfl
  have j1 := cell_of_block S.out.blk2 1 (.slice ra d.regs.length rac) rfl
  have j2 := cell_of_block S.out.blk2 2 (.slice ma d.mem.length mac) rfl
  have j3 := cell_of_block S.out.blk2 3 (.slice ba d.buf.length bac) rfl
  by_cases hlt : k < cs.length
  ·have z1 : (k : Int) < (cs.length : Int) := by omega
   obtain ⟨n, rfl⟩ : ∃ n, gk = n + 1 := ⟨gk - 1, by omega⟩
   obtain ⟨b1, o1, vp, vr, vm, vb, rfl, x0, x1, x2, x3, hcf⟩ := HCS.out k hlt
   have hsl := HS.out k hlt
   have x0 := bkeep S.out.below x0
   have x1 := bkeep S.out.below x1
   have x2 := bkeep S.out.below x2
   have x3 := bkeep S.out.below x3
   have HC := Lib.hid (fun (s : Sub wr) => confsame_ok _ _ (cs.getD k cf0) d s.1 (hcf.below (S.out.below.trans (s.2.mono S.out.below.size))) (HD.out.below (S.out.below.trans (s.2.mono S.out.below.size))) hsl.pc hsl.mem hsl.regs hsl.buf hsl.rows hsl.bufs)
   have H1 := Lib.hid (HHIT.out k n)
   have H2 := Lib.hid (HNXT.out k n)
   clear HHIT HNXT HST HEN hsl hcf
   generalize sameC (cs.getD k cf0) d = SC at *
   have f0 : ∀ s : Sub wr, s.1.cell? ⟨w.heap.size, 0, none⟩ = some (.slice (some ⟨b1, o1, none⟩) cs.length cc) := fun s => s.cell i0
   have g0 : ∀ s : Sub wr, s.1.cell? ⟨w.heap.size + 1, 0, none⟩ = some (.slice pa d.pc.length pac) := fun s => s.cell j0
   have g1 : ∀ s : Sub wr, s.1.cell? ⟨w.heap.size + 1, 1, none⟩ = some (.slice ra d.regs.length rac) := fun s => s.cell j1
   have g2 : ∀ s : Sub wr, s.1.cell? ⟨w.heap.size + 1, 2, none⟩ = some (.slice ma d.mem.length mac) := fun s => s.cell j2
   have g3 : ∀ s : Sub wr, s.1.cell? ⟨w.heap.size + 1, 3, none⟩ = some (.slice ba d.buf.length bac) := fun s => s.cell j3
   have e0 : ∀ s : Sub wr, s.1.cell? ⟨b1, o1 + k * 4, none⟩ = some vp := fun s => s.cell x0
   have e1 : ∀ s : Sub wr, s.1.cell? ⟨b1, o1 + k * 4 + 1, none⟩ = some vr := fun s => s.cell x1
   have e2 : ∀ s : Sub wr, s.1.cell? ⟨b1, o1 + k * 4 + 2, none⟩ = some vm := fun s => s.cell x2
   have e3 : ∀ s : Sub wr, s.1.cell? ⟨b1, o1 + k * 4 + 3, none⟩ = some vb := fun s => s.cell x3
   cases SC
   ·have E := Lib.hid (HR.out.trans (H2.out rfl))
    clear H1 H2
    go_wp2_with fail
    refine region_below (by kernel_rfl) (by kernel_rfl) ?_
    repeat (go_big_quiet_step ((go_at_call 71; exact Calls.sub_of (HC.out _))))
    refine wpQuiet_nil ?_
    intro w4 hb4
    have HB4 := Lib.hid (HB.out.trans (hb4.mono HB.out.size))
    clear hb4
    go_wp2_with fail
    go_roundg n
    case measure => omega
    case rel => exact ⟨k + 1, by omega, by simp, E, HB4⟩
   ·have E := Lib.hid (HR.out.trans (H1.out rfl))
    clear H1 H2
    go_wp2_with fail
    refine region_below (by kernel_rfl) (by kernel_rfl) ?_
    repeat (go_big_quiet_step ((go_at_call 71; exact Calls.sub_of (HC.out _))))
    refine wpQuiet_nil ?_
    intro w4 hb4
    have S4 := Lib.hid (S.out.more hb4)
    clear hb4
    go_wp2_with fail
    go_ret
    exact ⟨by rw [E.out]; rfl, S4.out.below⟩
  ·have hkk : k = cs.length := by omega
   have hgk : gk = 0 := by omega
   subst hgk
   have E := Lib.hid (HR.out.trans (HEN.out k))
   clear HHIT HNXT HST HEN
   subst hkk
   go_wp2_with fail
   go_ret
   exact ⟨by rw [E.out]; rfl, S.out.below⟩
end Go.Proofs.Ytlhpjfnfemebdaa
namespace Go.Proofs.Ytlhpjfnfemebdaa
open Go.RowKit
def movK (u : PUn) (c : Cf) (model room : Int) : Nat → List Int
 | 0 => []
 | k + 1 => if enA u c model room k = true then movK u c model room k ++ [(k : Int)] else movK u c model room k
def movL (u : PUn) (c : Cf) (model room : Int) : List Int := movK u c model room (agN u model)
theorem movK_len (u : PUn) (c : Cf) (model room : Int) : ∀ k, (movK u c model room k).length ≤ k
 | 0 => Nat.le_refl _
 | k + 1 => by
  have := movK_len u c model room k
  rw [movK]
  split
  ·rw [List.length_append, List.length_singleton]; omega
  ·omega
theorem movK_mem {u : PUn} {c : Cf} {model room : Int} {x : Int} : ∀ {k : Nat}, x ∈ movK u c model room k ↔ ∃ a : Nat, x = (a : Int) ∧ a < k ∧ enA u c model room a = true
 | 0 => by simp [movK]
 | k + 1 => by
  have ih := movK_mem (u := u) (c := c) (model := model) (room := room) (x := x) (k := k)
  rw [movK]
  split
  ·rename_i h
   rw [List.mem_append, ih, List.mem_singleton]
   constructor
   ·rintro (⟨a, e, ha, h2⟩ | rfl)
    ·exact ⟨a, e, by omega, h2⟩
    ·exact ⟨k, rfl, by omega, h⟩
   ·rintro ⟨a, e, ha, h2⟩
    by_cases hak : a = k
    ·right; rw [e, hak]
    ·exact .inl ⟨a, e, by omega, h2⟩
  ·rename_i h
   rw [ih]
   constructor
   ·rintro ⟨a, e, ha, h2⟩; exact ⟨a, e, by omega, h2⟩
   ·rintro ⟨a, e, ha, h2⟩
    by_cases hak : a = k
    ·rw [hak] at h2; exact absurd h2 h
    ·exact ⟨a, e, by omega, h2⟩
set_option maxRecDepth 100000 in
set_option maxHeartbeats 32000000 in
theorem moves_ok (uv cv : Value) (u : PUn) (c : Cf) (model room : Int) (w : World) (hu : UnV w uv u) (hc : CfV w cv c) (hR : rightU u = true) (hL : UnL u) (hk : CfOk u 1000 c) :
  Calls Try.prog 43 #[uv, cv, .int .i64 model, .int .i64 room] w fun r w' => ∃ rv, r = .returned rv ∧ OwnI w.heap.size w' rv (movL u c model room) ∧ Below w.heap.size w w' := by
 obtain ⟨i0, hi0, hz0, hz1, hz2⟩ := info_parts Try.info3
 have hag := agN_le hR model
 have HA := Lib.hid (fun (w' : World) (hb : Below w.heap.size w w') => agents_ok uv u model w' (hu.below hb) hR hL)
 have HE := Lib.hid (fun (w' : World) (hb : Below w.heap.size w w') (a : Nat) (ha : a < agN u model) => enM_ok uv cv u c model room a w' (hu.below hb) (hc.below hb) hR hL hk ha)
 obtain ⟨ia, ic, ga, gc, ca, cc, rfl, -⟩ := hu.var
 obtain ⟨pa, pc, ra, rc, ma, mc, ba, bc, rfl, -⟩ := hc.var
 have S0 := Lib.hid (Bx2.start w #[.int .i64 u.mod, .slice ia u.init.length ic, .slice ga u.regs.length gc, .slice ca u.code.length cc] 25 #[.slice pa c.pc.length pc, .slice ra c.regs.length rc, .slice ma c.mem.length mc, .slice ba c.buf.length bc] 52)
 have HS : Hid (∀ k, movK u c model room (k + 1) = if enA u c model room k = true then movK u c model room k ++ [(k : Int)] else movK u c model room k) := Lib.hid (fun k => rfl)
 have HZ : Hid (movK u c model room 0 = []) := Lib.hid rfl
 have HLN := Lib.hid (movK_len u c model room)
 unfold movL
 clear hu hc hk hL hR
 generalize hw2 : (w.alloc (.cells #[.int .i64 u.mod, .slice ia u.init.length ic, .slice ga u.regs.length gc, .slice ca u.code.length cc] 25)).alloc (.cells #[.slice pa c.pc.length pc, .slice ra c.regs.length rc, .slice ma c.mem.length mc, .slice ba c.buf.length bc] 52) = w2 at *
 generalize movK u c model room = MK at *
 generalize enA u c model room = EA at *
 generalize agN u model = ag at *
 go_enter Try.func43, Try.ntmps43
 go_wp2_with fail
 clear hw2
 go_loopg [9, 10] ag (fun fu ov q wr => ∃ k : Nat, k + fu = ag ∧ q = .int .i64 k ∧ Hid (OwnI w2.heap.size wr ov (MK k)) ∧ Hid (Below w2.heap.size w2 wr))
 case atStart => exact ⟨0, by omega, rfl, Lib.hid (by rw [HZ.out]; exact OwnI.nil _ _), Lib.hid (Below.refl _ _)⟩
 case round =>
  obtain ⟨k, hk, rfl, HO, HB⟩ := hrel
  obtain ⟨oa, oc, rfl⟩ := ownv HO.out
  have hol := HLN.out k
  have S := Lib.hid (S0.out.more HB.out)
  have i0' := cell_of_block S.out.blk1 0 (.int .i64 u.mod) rfl
  have i1 := cell_of_block S.out.blk1 1 (.slice ia u.init.length ic) rfl
  have i2 := cell_of_block S.out.blk1 2 (.slice ga u.regs.length gc) rfl
  have i3 := cell_of_block S.out.blk1 3 (.slice ca u.code.length cc) rfl
  by_cases hlt : k < ag
  ·have z1 : (k : Int) < (ag : Int) := by omega
   have hs := HS.out k
   have HEK := Lib.hid (fun (w' : World) (hb : Below w.heap.size w w') => HE.out w' hb k hlt)
   clear HE HS HZ HLN
   cases he : EA k
   ·rw [he] at HEK
    rw [he, if_neg (by simp)] at hs
    have E := Lib.hid hs
    clear hs he
    go_wp2_with (first
     | (go_at_call 25; refine (HEK.out _ S1.out.below).mono ?_; rintro e2 w4 ⟨rfl, hb2⟩; have HB4 := Lib.hid (HB3.out.trans (hb2.mono HB3.out.size)); have HO4 := Lib.hid (HO3.out.more hb2); clear hb2)
     | (go_at_call 22; refine (HA.out _ S.out.below).mono ?_; rintro e1 w3 ⟨rfl, hb1⟩; have S1 := Lib.hid (S.out.more hb1); have HB3 := Lib.hid (HB.out.trans (hb1.mono HB.out.size)); have HO3 := Lib.hid (HO.out.more hb1); clear hb1 i0' i1 i2 i3; have i0' := cell_of_block S1.out.blk1 0 _ rfl; have i1 := cell_of_block S1.out.blk1 1 _ rfl; have i2 := cell_of_block S1.out.blk1 2 _ rfl; have i3 := cell_of_block S1.out.blk1 3 _ rfl; have l0 := cell_of_block S1.out.blk2 0 _ rfl; have l1 := cell_of_block S1.out.blk2 1 _ rfl; have l2 := cell_of_block S1.out.blk2 2 _ rfl; have l3 := cell_of_block S1.out.blk2 3 _ rfl))
    go_roundg (ag - (k + 1))
    case measure => omega
    case rel => exact ⟨k + 1, by omega, by simp, Lib.hid (by rw [E.out]; exact HO4.out), HB4⟩
   ·rw [he] at HEK
    rw [he, if_pos rfl] at hs
    have E := Lib.hid hs
    clear hs he
    generalize MK k = mk at *
    go_wp2_with (first
     | (at_builtin; refine wpList_append_lies (w4.alloc (.cells #[.int .i64 (k : Nat)] 3)) rfl (.tmp 24) (.tmp 26) 22 rfl w2.heap.size 3 i0 (.int .i64 0) 1 8 Try.underlying22 hi0 hz0 hz1 hz2 rfl (by decide) (.slice oa mk.length oc) mk.length _ rfl (World.ownsRow.alloc HO4.out _) ⟨w4.heap.size, 0, none⟩ 1 1 [.int .i64 (k : Nat)] rfl rfl (World.news_of_block (heap_alloc_new _ _)) (by simp [Value.oneCell']) (by omega) (by unfold maxLen; omega) (by omega) (by have := HB4.out.size; simp; omega) (w4.heap.size + 1) (by simp) ?_; intro g5 cap5 w5 hown5 hgr5 hor5 hlt5; have HO5 := Lib.hid hown5; have HB5 := Lib.hid (below_own HB4.out HO4.out hgr5); clear hown5 hgr5 hor5)
     | (go_at_call 25; refine (HEK.out _ S1.out.below).mono ?_; rintro e2 w4 ⟨rfl, hb2⟩; have HB4 := Lib.hid (HB3.out.trans (hb2.mono HB3.out.size)); have HO4 := Lib.hid (HO3.out.more hb2); clear hb2)
     | (go_at_call 22; refine (HA.out _ S.out.below).mono ?_; rintro e1 w3 ⟨rfl, hb1⟩; have S1 := Lib.hid (S.out.more hb1); have HB3 := Lib.hid (HB.out.trans (hb1.mono HB.out.size)); have HO3 := Lib.hid (HO.out.more hb1); clear hb1 i0' i1 i2 i3; have i0' := cell_of_block S1.out.blk1 0 _ rfl; have i1 := cell_of_block S1.out.blk1 1 _ rfl; have i2 := cell_of_block S1.out.blk1 2 _ rfl; have i3 := cell_of_block S1.out.blk1 3 _ rfl; have l0 := cell_of_block S1.out.blk2 0 _ rfl; have l1 := cell_of_block S1.out.blk2 1 _ rfl; have l2 := cell_of_block S1.out.blk2 2 _ rfl; have l3 := cell_of_block S1.out.blk2 3 _ rfl))
    go_roundg (ag - (k + 1))
    case measure => omega
    case rel => exact ⟨k + 1, by omega, by simp, Lib.hid (by rw [E.out]; unfold OwnI; rw [List.length_append, List.map_append]; exact HO5.out), HB5⟩
  ·have hkk : k = ag := by omega
   subst hkk
   clear HE HS HZ HLN
   go_wp2_with (go_at_call 22; refine (HA.out _ S.out.below).mono ?_; rintro e1 w3 ⟨rfl, hb1⟩; have S1 := Lib.hid (S.out.more hb1); have HO3 := Lib.hid (HO.out.more hb1); clear hb1)
   go_ret
   exact ⟨_, rfl, ownlow HO3.out S0.out.below.size, S1.out.below⟩
end Go.Proofs.Ytlhpjfnfemebdaa
namespace Go.Proofs.Ytlhpjfnfemebdaa
open Go.RowKit
structure Sp where
 confs : List Cf
 par : List Int
 ag : List Int
 ed : List Ed
section
variable (u : PUn) (model room budget : Int)
def nextC (s : Sp) (i : Nat) (a : Int) : Cf := actM u (s.confs.getD i cf0) model a.toNat
def stepS (i : Nat) (s : Sp) (a : Int) : Option Sp :=
 if findC s.confs (nextC u model s i a) < 0 then
  (if budget ≤ (s.confs.length : Int) then none else some ⟨s.confs ++ [nextC u model s i a], s.par ++ [(i : Int)], s.ag ++ [a], s.ed ++ [((i : Int), a, (s.confs.length : Int))]⟩)
 else some { s with ed := s.ed ++ [((i : Int), a, findC s.confs (nextC u model s i a))] }
def rowS (i : Nat) : List Int → Sp → Option Sp
 | [], s => some s
 | a :: l, s => (stepS u model budget i s a).bind (rowS i l)
def movS (s : Sp) (i : Nat) : List Int := movL u (s.confs.getD i cf0) model room
def allK : Nat → Nat → Sp → Option Sp
 | 0, _, s => some s
 | f + 1, i, s => if i < s.confs.length then (rowS u model budget i (movS u model room s i) s).bind (allK f (i + 1)) else some s
def startS : Sp := ⟨[startC u], [-1], [-1], []⟩
def allS : Option Sp := allK u model room budget (budget.toNat + 1) 0 (startS u)
def rowsB (s : Sp) (i : Nat) : List (Int × Int) := (List.range i).flatMap (fun j => (movS u model room s j).map (fun a => ((j : Int), a)))
structure SpI (i k : Nat) (s : Sp) : Prop where
 lenP : s.par.length = s.confs.length
 lenA : s.ag.length = s.confs.length
 pos : 0 < s.confs.length
 le : (s.confs.length : Int) ≤ budget
 ok : ∀ j, j < s.confs.length → CfOk u j (s.confs.getD j cf0)
 row : i ≤ s.confs.length
 edm : s.ed.map (fun e => (e.1, e.2.1)) = rowsB u model room s i ++ ((movS u model room s i).take k).map (fun a => ((i : Int), a))
 edt : ∀ e ∈ s.ed, 0 ≤ e.2.2 ∧ e.2.2 < (s.confs.length : Int)
 par0 : s.par.getD 0 0 = -1
 parE : ∀ j, 1 ≤ j → j < s.confs.length → ∃ e ∈ s.ed, e.2.2 = (j : Int) ∧ e.1 = s.par.getD j 0 ∧ e.2.1 = s.ag.getD j 0
 parI : ∀ j, 1 ≤ j → j < s.confs.length → 0 ≤ s.par.getD j 0 ∧ s.par.getD j 0 < (j : Int) ∧ s.par.getD j 0 ≤ (i : Int)
 parM : ∀ j j', 1 ≤ j → j ≤ j' → j' < s.confs.length → s.par.getD j 0 ≤ s.par.getD j' 0
 first : ∀ e ∈ s.ed, 1 ≤ e.2.2 → s.par.getD e.2.2.toNat 0 ≤ e.1
end
theorem findK_in (cs : List Cf) (c : Cf) : ∀ (d k : Nat), k + d ≤ cs.length → findK cs c k d = -1 ∨ (0 ≤ findK cs c k d ∧ findK cs c k d < (cs.length : Int))
 | 0, k, _ => .inl (by rw [findK])
 | d + 1, k, h => by
  rw [findK]
  split
  ·exact .inr ⟨by omega, by omega⟩
  ·exact findK_in cs c d (k + 1) (by omega)
theorem findC_in (cs : List Cf) (c : Cf) : findC cs c = -1 ∨ (0 ≤ findC cs c ∧ findC cs c < (cs.length : Int)) := findK_in cs c cs.length 0 (by omega)
theorem getD_app_l {α : Type} {l r : List α} {j : Nat} {d : α} (h : j < l.length) : (l ++ r).getD j d = l.getD j d := by
 rw [List.getD_eq_getElem?_getD, List.getElem?_append_left h, ← List.getD_eq_getElem?_getD]
theorem getD_app_e {α : Type} {l : List α} {x d : α} : (l ++ [x]).getD l.length d = x := by
 rw [List.getD_eq_getElem?_getD, List.getElem?_append_right (Nat.le_refl _)]; simp
theorem getD_app_e' {α : Type} {l : List α} {x d : α} {n : Nat} (h : l.length = n) : (l ++ [x]).getD n d = x := by subst h; exact getD_app_e
theorem take_succ_getD {α : Type} {l : List α} {k : Nat} {d : α} (h : k < l.length) : l.take (k + 1) = l.take k ++ [l.getD k d] := by
 rw [List.take_add_one, List.getElem?_eq_getElem h, List.getD_eq_getElem?_getD, List.getElem?_eq_getElem h]; rfl
section
variable {u : PUn} {model room budget : Int}
theorem movS_app {s s' : Sp} {x : List Cf} (h : s'.confs = s.confs ++ x) {j : Nat} (hj : j < s.confs.length) : movS u model room s' j = movS u model room s j := by
 unfold movS
 rw [h, getD_app_l hj]
theorem rowsB_app {s s' : Sp} {x : List Cf} (h : s'.confs = s.confs ++ x) {i : Nat} (hi : i ≤ s.confs.length) : rowsB u model room s' i = rowsB u model room s i := by
 unfold rowsB
 rw [List.flatMap_def, List.flatMap_def]
 congr 1
 refine List.map_congr_left fun j hj => ?_
 rw [movS_app h (by have := List.mem_range.1 hj; omega)]
theorem SpI.step (hR : rightU u = true) {i k : Nat} {s s' : Sp} (h : SpI u model room budget i k s) (hi : i < s.confs.length) (hk : k < (movS u model room s i).length) (hs : stepS u model budget i s ((movS u model room s i).getD k 0) = some s') : SpI u model room budget i (k + 1) s' ∧ ∃ x, s'.confs = s.confs ++ x := by
 have ha : (movS u model room s i).getD k 0 ∈ movS u model room s i := by simp [List.getD, hk]
 have htk : ((movS u model room s i).take (k + 1)).map (fun a => ((i : Int), a)) = ((movS u model room s i).take k).map (fun a => ((i : Int), a)) ++ [((i : Int), (movS u model room s i).getD k 0)] := by
  rw [take_succ_getD hk, List.map_append]; rfl
 generalize (movS u model room s i).getD k 0 = a at *
 obtain ⟨n, hn, hag, hen⟩ := movK_mem.1 ha
 have hok : CfOk u (i + 1) (nextC u model s i a) := by
  unfold nextC
  rw [hn, Int.toNat_natCast]
  exact actM_ok hR (h.ok i hi) hag hen
 unfold stepS at hs
 split at hs
 ·split at hs
  ·cases hs
  ·rename_i hb
   cases hs
   have hpl := h.lenP
   have hal := h.lenA
   have hpos := h.pos
   refine ⟨⟨by simp [hpl], by simp [hal], by simp, by simp only [List.length_append, List.length_singleton]; omega, fun j hj => ?_, by simp; omega, ?_, fun e he => ?_, ?_, fun j h1 hj => ?_, fun j h1 hj => ?_, fun j j' h1 h2 hj => ?_, fun e he h1 => ?_⟩, [_], rfl⟩
   ·simp only [List.length_append, List.length_singleton] at hj
    by_cases e : j < s.confs.length
    ·show CfOk u j ((s.confs ++ _).getD j cf0)
     rw [getD_app_l e]; exact h.ok j e
    ·obtain rfl : j = s.confs.length := by omega
     show CfOk u _ ((s.confs ++ _).getD s.confs.length cf0)
     rw [getD_app_e]; exact hok.more (by omega)
   ·rw [rowsB_app (s := s) rfl (by omega), movS_app (s := s) rfl hi, htk]
    show (s.ed ++ [_]).map _ = _
    rw [List.map_append, h.edm, List.append_assoc]
    rfl
   ·simp only [List.mem_append, List.mem_singleton] at he
    simp only [List.length_append, List.length_singleton]
    rcases he with he | rfl
    ·have := h.edt e he; omega
    ·show 0 ≤ (s.confs.length : Int) ∧ (s.confs.length : Int) < ((s.confs.length + 1 : Nat) : Int); omega
   ·show (s.par ++ _).getD 0 0 = -1
    rw [getD_app_l (by omega)]; exact h.par0
   ·simp only [List.length_append, List.length_singleton] at hj
    by_cases e : j < s.confs.length
    ·obtain ⟨x, hx, e1, e2, e3⟩ := h.parE j h1 e
     refine ⟨x, List.mem_append_left _ hx, e1, ?_, ?_⟩
     ·show x.1 = (s.par ++ _).getD j 0
      rw [getD_app_l (by omega)]; exact e2
     ·show x.2.1 = (s.ag ++ _).getD j 0
      rw [getD_app_l (by omega)]; exact e3
    ·obtain rfl : j = s.confs.length := by omega
     refine ⟨_, List.mem_append_right _ (List.mem_singleton.2 rfl), rfl, ?_, ?_⟩
     ·show (i : Int) = (s.par ++ [(i : Int)]).getD s.confs.length 0
      rw [getD_app_e' hpl]
     ·show a = (s.ag ++ [a]).getD s.confs.length 0
      rw [getD_app_e' hal]
   ·simp only [List.length_append, List.length_singleton] at hj
    show 0 ≤ (s.par ++ [(i : Int)]).getD j 0 ∧ (s.par ++ [(i : Int)]).getD j 0 < (j : Int) ∧ (s.par ++ [(i : Int)]).getD j 0 ≤ (i : Int)
    by_cases e : j < s.confs.length
    ·rw [getD_app_l (by omega)]; exact h.parI j h1 e
    ·obtain rfl : j = s.confs.length := by omega
     rw [getD_app_e' hpl]; omega
   ·simp only [List.length_append, List.length_singleton] at hj
    show (s.par ++ [(i : Int)]).getD j 0 ≤ (s.par ++ [(i : Int)]).getD j' 0
    by_cases e : j' < s.confs.length
    ·rw [getD_app_l (by omega), getD_app_l (by omega)]; exact h.parM j j' h1 h2 e
    ·obtain rfl : j' = s.confs.length := by omega
     rw [getD_app_e' hpl]
     by_cases e2 : j < s.confs.length
     ·rw [getD_app_l (by omega)]; exact (h.parI j h1 e2).2.2
     ·obtain rfl : j = s.confs.length := by omega
      rw [getD_app_e' hpl]; omega
   ·simp only [List.mem_append, List.mem_singleton] at he
    rcases he with he | rfl
    ·have := h.edt e he
     show (s.par ++ [(i : Int)]).getD e.2.2.toNat 0 ≤ e.1
     rw [getD_app_l (by omega)]; exact h.first e he h1
    ·show (s.par ++ [(i : Int)]).getD (Int.toNat (s.confs.length : Int)) 0 ≤ (i : Int)
     rw [Int.toNat_natCast, getD_app_e' hpl]; omega
 ·rename_i hf
  cases hs
  have hfi := findC_in s.confs (nextC u model s i a)
  refine ⟨⟨h.lenP, h.lenA, h.pos, h.le, h.ok, h.row, ?_, fun e he => ?_, h.par0, fun j h1 hj => ?_, h.parI, h.parM, fun e he h1 => ?_⟩, [], by simp⟩
  ·show (s.ed ++ [_]).map _ = rowsB u model room s i ++ ((movS u model room s i).take (k + 1)).map (fun a => ((i : Int), a))
   rw [htk, List.map_append, h.edm, List.append_assoc]
   rfl
  ·simp only [List.mem_append, List.mem_singleton] at he
   rcases he with he | rfl
   ·exact h.edt e he
   ·show 0 ≤ findC s.confs (nextC u model s i a) ∧ findC s.confs (nextC u model s i a) < _
    exact ⟨by omega, by show _ < (s.confs.length : Int); omega⟩
  ·obtain ⟨x, hx, e1⟩ := h.parE j h1 hj
   exact ⟨x, List.mem_append_left _ hx, e1⟩
  ·simp only [List.mem_append, List.mem_singleton] at he
   rcases he with he | rfl
   ·exact h.first e he h1
   ·show s.par.getD (findC s.confs (nextC u model s i a)).toNat 0 ≤ (i : Int)
    exact (h.parI _ (by have : 1 ≤ findC s.confs (nextC u model s i a) := h1; omega) (by omega)).2.2
theorem SpI.next {i : Nat} {s : Sp} (h : SpI u model room budget i (movS u model room s i).length s) (hi : i < s.confs.length) : SpI u model room budget (i + 1) 0 s := by
 refine { h with row := by omega, edm := ?_, parI := fun j h1 hj => by have := h.parI j h1 hj; omega }
 rw [h.edm, List.take_length, List.take_zero, List.map_nil, List.append_nil]
 unfold rowsB
 rw [List.range_succ, List.flatMap_append]
 simp
theorem SpI.start (hR : rightU u = true) (hb : 1 ≤ budget) : SpI u model room budget 0 0 (startS u) := by
 refine ⟨rfl, rfl, Nat.zero_lt_one, hb, fun j hj => ?_, by omega, ?_, fun e he => (by cases he), rfl, fun j h1 hj => ?_, fun j h1 hj => ?_, fun j j' h1 h2 hj => ?_, fun e he => (by cases he)⟩
 ·obtain rfl : j = 0 := by simp [startS] at hj; omega
  exact startC_ok hR
 ·simp [startS, rowsB]
 ·simp [startS] at hj; omega
 ·simp [startS] at hj; omega
 ·simp [startS] at hj; omega
theorem SpI.rows (hR : rightU u = true) {i : Nat} : ∀ {d k : Nat} {s s' : Sp}, k + d = (movS u model room s i).length → i < s.confs.length → SpI u model room budget i k s → rowS u model budget i ((movS u model room s i).drop k) s = some s' → SpI u model room budget (i + 1) 0 s'
 | 0, k, s, s', hk, hi, h, hs => by
  rw [List.drop_of_length_le (by omega), rowS] at hs
  cases hs
  have : k = (movS u model room s i).length := by omega
  subst this
  exact h.next hi
 | d + 1, k, s, s', hk, hi, h, hs => by
  have hlt : k < (movS u model room s i).length := by omega
  have hd : (movS u model room s i).drop k = (movS u model room s i).getD k 0 :: (movS u model room s i).drop (k + 1) := by
   rw [List.drop_eq_getElem_cons hlt, List.getD_eq_getElem?_getD, List.getElem?_eq_getElem hlt]; rfl
  rw [hd, rowS] at hs
  obtain ⟨s1, e1, e2⟩ := Option.bind_eq_some_iff.1 hs
  obtain ⟨h1, x, hx⟩ := h.step hR hi hlt e1
  have hm : movS u model room s1 i = movS u model room s i := movS_app hx hi
  rw [← hm] at e2 hk
  exact SpI.rows hR (d := d) (k := k + 1) (by omega) (by rw [hx, List.length_append]; omega) h1 e2
theorem SpI.all (hR : rightU u = true) : ∀ {f i : Nat} {s s' : Sp}, budget.toNat + 1 ≤ f + i → SpI u model room budget i 0 s → allK u model room budget f i s = some s' → SpI u model room budget s'.confs.length 0 s'
 | 0, i, s, s', hf, h, hs => by
  have h1 := h.row
  have h2 := h.le
  omega
 | f + 1, i, s, s', hf, h, hs => by
  rw [allK] at hs
  split at hs
  ·rename_i hi
   obtain ⟨s1, e1, e2⟩ := Option.bind_eq_some_iff.1 hs
   have h1 := SpI.rows hR (d := (movS u model room s i).length) (k := 0) (by omega) hi h (by rw [List.drop_zero]; exact e1)
   exact SpI.all hR (by omega) h1 e2
  ·rename_i hi
   cases hs
   have hr := h.row
   have : i = s.confs.length := by omega
   subst this
   exact h
theorem allS_ok (hR : rightU u = true) (hb : 1 ≤ budget) {s : Sp} (hs : allS u model room budget = some s) : SpI u model room budget s.confs.length 0 s := SpI.all hR (by omega) (SpI.start hR hb) hs
theorem movS_len (hR : rightU u = true) (s : Sp) (j : Nat) : (movS u model room s j).length ≤ 28 := Nat.le_trans (movK_len _ _ _ _ _) (agN_le hR model)
theorem rowsB_len' (hR : rightU u = true) (s : Sp) : ∀ i, (rowsB u model room s i).length ≤ 28 * i
 | 0 => by simp [rowsB]
 | i + 1 => by
  have h1 := rowsB_len' hR s i
  have h2 := movS_len (model := model) (room := room) hR s i
  unfold rowsB at h1 ⊢
  rw [List.range_succ, List.flatMap_append, List.length_append]
  simp only [List.flatMap_cons, List.flatMap_nil, List.append_nil, List.length_map]
  omega
theorem rowsB_len (hR : rightU u = true) {s : Sp} {i : Nat} (_hi : i ≤ s.confs.length) : (rowsB u model room s i).length ≤ 28 * i := rowsB_len' hR s i
end
end Go.Proofs.Ytlhpjfnfemebdaa
namespace Go.Proofs.Ytlhpjfnfemebdaa
open Go.RowKit
def depK (par : List Int) : Nat → Nat → Nat
 | 0, _ => 0
 | f + 1, j => if j = 0 then 0 else depK par f (par.getD j 0).toNat + 1
def depF (par : List Int) (j : Nat) : Nat := depK par j j
theorem depK_fuel {par : List Int} {n : Nat} (h : ∀ j, 1 ≤ j → j < n → 0 ≤ par.getD j 0 ∧ par.getD j 0 < (j : Int)) : ∀ (f f' j : Nat), j ≤ f → j ≤ f' → j < n → depK par f j = depK par f' j
 | 0, f', j, h1, h2, h3 => by
  obtain rfl : j = 0 := by omega
  cases f' <;> simp [depK]
 | f + 1, 0, j, h1, h2, h3 => by
  obtain rfl : j = 0 := by omega
  simp [depK]
 | f + 1, f' + 1, j, h1, h2, h3 => by
  rw [depK, depK]
  split
  ·rfl
  ·have := h j (by omega) h3
   rw [depK_fuel h f f' _ (by omega) (by omega) (by omega)]
theorem depF_zero (par : List Int) : depF par 0 = 0 := rfl
theorem depF_succ {par : List Int} {n j : Nat} (h : ∀ j, 1 ≤ j → j < n → 0 ≤ par.getD j 0 ∧ par.getD j 0 < (j : Int)) (h1 : 1 ≤ j) (hj : j < n) : depF par j = depF par (par.getD j 0).toNat + 1 := by
 obtain ⟨i, rfl⟩ : ∃ i, j = i + 1 := ⟨j - 1, by omega⟩
 have hp := h (i + 1) h1 hj
 have hs : depF par (i + 1) = depK par i (par.getD (i + 1) 0).toNat + 1 := by
  unfold depF
  rw [depK, if_neg (by omega)]
 rw [hs]
 unfold depF
 rw [depK_fuel h i _ _ (by omega) (Nat.le_refl _) (by omega)]
structure Dp (n : Nat) (l : List Ed) (dep : Nat → Nat) : Prop where
 d0 : dep 0 = 0
 par : ∀ j, 1 ≤ j → j < n → ∃ e ∈ l, e.2.2 = (j : Int) ∧ dep e.1.toNat + 1 = dep j
 low : ∀ e ∈ l, dep e.2.2.toNat ≤ dep e.1.toNat + 1
 le : ∀ j, j < n → dep j ≤ j
 mono : ∀ j j', j ≤ j' → j' < n → dep j ≤ dep j'
 ed : ∀ e ∈ l, 0 ≤ e.1 ∧ e.1 < (n : Int) ∧ 0 ≤ e.2.2 ∧ e.2.2 < (n : Int)
theorem Dp.mem {n : Nat} {l l' : List Ed} {dep : Nat → Nat} (h : Dp n l dep) (hl : ∀ e, e ∈ l' ↔ e ∈ l) : Dp n l' dep :=
 ⟨h.d0, fun j h1 h2 => let ⟨e, he, r⟩ := h.par j h1 h2; ⟨e, (hl e).2 he, r⟩, fun e he => h.low e ((hl e).1 he), h.le, h.mono, fun e he => h.ed e ((hl e).1 he)⟩
theorem dep_mono {par : List Int} {n : Nat} (h : ∀ j, 1 ≤ j → j < n → 0 ≤ par.getD j 0 ∧ par.getD j 0 < (j : Int)) (hm : ∀ j j', 1 ≤ j → j ≤ j' → j' < n → par.getD j 0 ≤ par.getD j' 0) : ∀ (m j j' : Nat), j' ≤ m → j ≤ j' → j' < n → depF par j ≤ depF par j'
 | 0, j, j', h0, h1, h2 => by
  obtain rfl : j = 0 := by omega
  rw [depF_zero]; exact Nat.zero_le _
 | m + 1, j, j', h0, h1, h2 => by
  by_cases e : j = 0
  ·subst e; rw [depF_zero]; exact Nat.zero_le _
  ·rw [depF_succ h (by omega) (by omega), depF_succ h (j := j') (by omega) h2]
   have a := h j (by omega) (by omega)
   have b := h j' (by omega) h2
   have c := hm j j' (by omega) h1 h2
   have := dep_mono h hm m (par.getD j 0).toNat (par.getD j' 0).toNat (by omega) (by omega) (by omega)
   omega
theorem dep_le {par : List Int} {n : Nat} (h : ∀ j, 1 ≤ j → j < n → 0 ≤ par.getD j 0 ∧ par.getD j 0 < (j : Int)) : ∀ (m j : Nat), j ≤ m → j < n → depF par j ≤ j
 | 0, j, h0, h1 => by
  obtain rfl : j = 0 := by omega
  rw [depF_zero]; exact Nat.le_refl _
 | m + 1, j, h0, h1 => by
  by_cases e : j = 0
  ·subst e; rw [depF_zero]; exact Nat.le_refl _
  ·rw [depF_succ h (by omega) h1]
   have a := h j (by omega) h1
   have := dep_le h m (par.getD j 0).toNat (by omega) (by omega)
   omega
section
variable {u : PUn} {model room budget : Int} {s : Sp}
theorem SpI.dp (h : SpI u model room budget s.confs.length 0 s) : Dp s.confs.length s.ed (depF s.par) := by
 have hp : ∀ j, 1 ≤ j → j < s.confs.length → 0 ≤ s.par.getD j 0 ∧ s.par.getD j 0 < (j : Int) := fun j h1 h2 => let ⟨a, b, _⟩ := h.parI j h1 h2; ⟨a, b⟩
 have hed : ∀ e ∈ s.ed, 0 ≤ e.1 ∧ e.1 < (s.confs.length : Int) ∧ 0 ≤ e.2.2 ∧ e.2.2 < (s.confs.length : Int) := fun e he => by
  have ht := h.edt e he
  have hm : (e.1, e.2.1) ∈ s.ed.map (fun e => (e.1, e.2.1)) := List.mem_map.2 ⟨e, he, rfl⟩
  rw [h.edm, List.take_zero, List.map_nil, List.append_nil] at hm
  obtain ⟨j, hj, h2⟩ := List.mem_flatMap.1 hm
  obtain ⟨a, ha, e2⟩ := List.mem_map.1 h2
  have hj := List.mem_range.1 hj
  have e3 := (Prod.mk.inj e2).1
  omega
 refine ⟨rfl, fun j h1 hj => ?_, fun e he => ?_, fun j hj => dep_le hp j j (Nat.le_refl _) hj, fun j j' h1 h2 => dep_mono hp h.parM j' j j' (Nat.le_refl _) h1 h2, hed⟩
 ·obtain ⟨e, he, e1, e2, e3⟩ := h.parE j h1 hj
  refine ⟨e, he, e1, ?_⟩
  rw [e2, ← depF_succ hp h1 hj]
 ·have ht := hed e he
  by_cases e0 : e.2.2.toNat = 0
  ·rw [e0, depF_zero]; exact Nat.zero_le _
  ·have hf := h.first e he (by omega)
   rw [depF_succ hp (by omega) (by omega : e.2.2.toNat < s.confs.length)]
   have := hp e.2.2.toNat (by omega) (by omega)
   have := dep_mono hp h.parM e.1.toNat (s.par.getD e.2.2.toNat 0).toNat e.1.toNat (Nat.le_refl _) (by omega) (by omega)
   omega
end
def depL (n : Nat) (dep : Nat → Nat) : List Int := tab n (fun j => (dep j : Int))
section
variable {n : Nat} {l : List Ed} {dep : Nat → Nat}
def RfD (n : Nat) (l : List Ed) (dep : Nat → Nat) (d k : Nat) (out : List Int) : Prop :=
 out.length = n ∧ ∀ j, j < n → (out.getD j 0 = (dep j : Int) ∧ (dep j ≤ d ∨ (dep j = d + 1 ∧ ∃ e ∈ l.take k, e.2.2 = (j : Int) ∧ dep e.1.toNat = d))) ∨ (out.getD j 0 = -1 ∧ d < dep j ∧ ∀ e ∈ l.take k, e.2.2 = (j : Int) → dep e.1.toNat ≠ d)
theorem RfD.start (h : Dp n l dep) {out : List Int} (hl : out.length = n) (h0 : out.getD 0 0 = 0) (h1 : ∀ j, 1 ≤ j → j < n → out.getD j 0 = -1) : RfD n l dep 0 0 out := by
 refine ⟨hl, fun j hj => ?_⟩
 by_cases e : j = 0
 ·subst e; left; rw [h.d0]; exact ⟨h0, .inl (Nat.le_refl _)⟩
 ·right
  obtain ⟨x, -, -, h2⟩ := h.par j (by omega) hj
  exact ⟨h1 j (by omega) hj, by omega, fun e he => by simp at he⟩
theorem RfD.hit (h : Dp n l dep) {d k : Nat} {out : List Int} (hr : RfD n l dep d k out) (hk : k < l.length) {e : Ed} (he : l.getD k (0, 0, 0) = e) (hf : out.getD e.1.toNat 0 = (d : Int)) (ht : out.getD e.2.2.toNat 0 < 0) : RfD n l dep d (k + 1) (out.set e.2.2.toNat ((d : Int) + 1)) := by
 have hmem : e ∈ l := by subst he; simp [List.getD, hk]
 obtain ⟨b1, b2, b3, b4⟩ := h.ed e hmem
 have htk : l.take (k + 1) = l.take k ++ [e] := by rw [take_succ_getD (d := (0, 0, 0)) hk, he]
 have hdf : dep e.1.toNat = d := by
  rcases hr.2 e.1.toNat (by omega) with ⟨q, -⟩ | ⟨q, -⟩ <;> omega
 have hlow := h.low e hmem
 refine ⟨by rw [List.length_set]; exact hr.1, fun j hj => ?_⟩
 rw [getD_set _ _ _ _ _ (by rw [hr.1]; omega)]
 by_cases ej : j = e.2.2.toNat
 ·rw [if_pos ej]
  left
  rcases hr.2 j hj with ⟨q, -⟩ | ⟨q, q2, -⟩
  ·rw [← ej] at ht; omega
  ·rw [← ej] at hlow
   refine ⟨by omega, .inr ⟨by omega, e, by rw [htk]; simp, by omega, hdf⟩⟩
 ·rw [if_neg ej]
  rcases hr.2 j hj with ⟨q, q2⟩ | ⟨q, q2, q3⟩
  ·left
   refine ⟨q, q2.imp id (fun ⟨a, x, hx, r⟩ => ⟨a, x, by rw [htk]; exact List.mem_append_left _ hx, r⟩)⟩
  ·right
   refine ⟨q, q2, fun x hx hxj => ?_⟩
   rw [htk, List.mem_append, List.mem_singleton] at hx
   rcases hx with hx | rfl
   ·exact q3 x hx hxj
   ·omega
theorem RfD.miss (h : Dp n l dep) {d k : Nat} {out : List Int} (hr : RfD n l dep d k out) (hk : k < l.length) {e : Ed} (he : l.getD k (0, 0, 0) = e) (hf : ¬ (out.getD e.1.toNat 0 = (d : Int) ∧ out.getD e.2.2.toNat 0 < 0)) : RfD n l dep d (k + 1) out := by
 have hmem : e ∈ l := by subst he; simp [List.getD, hk]
 obtain ⟨b1, b2, b3, b4⟩ := h.ed e hmem
 have htk : l.take (k + 1) = l.take k ++ [e] := by rw [take_succ_getD (d := (0, 0, 0)) hk, he]
 refine ⟨hr.1, fun j hj => ?_⟩
 rcases hr.2 j hj with ⟨q, q2⟩ | ⟨q, q2, q3⟩
 ·left
  refine ⟨q, q2.imp id (fun ⟨a, x, hx, r⟩ => ⟨a, x, by rw [htk]; exact List.mem_append_left _ hx, r⟩)⟩
 ·right
  refine ⟨q, q2, fun x hx hxj => ?_⟩
  rw [htk, List.mem_append, List.mem_singleton] at hx
  rcases hx with hx | rfl
  ·exact q3 x hx hxj
  ·intro hd
   apply hf
   refine ⟨?_, ?_⟩
   ·rcases hr.2 x.1.toNat (by omega) with ⟨r, -⟩ | ⟨r, r2, -⟩
    ·omega
    ·omega
   ·obtain rfl : j = x.2.2.toNat := by omega
    omega
theorem RfD.next (h : Dp n l dep) {d : Nat} {out : List Int} (hr : RfD n l dep d l.length out) : RfD n l dep (d + 1) 0 out := by
 refine ⟨hr.1, fun j hj => ?_⟩
 rcases hr.2 j hj with ⟨q, q2⟩ | ⟨q, q2, q3⟩
 ·left; exact ⟨q, .inl (by rcases q2 with a | ⟨a, -⟩ <;> omega)⟩
 ·by_cases e : dep j = d + 1
  ·have h0 : j ≠ 0 := fun e0 => by subst e0; rw [h.d0] at e; omega
   obtain ⟨x, hx, h1, h2⟩ := h.par j (by omega) hj
   exact absurd (by omega) (q3 x (by rw [List.take_length]; exact hx) h1)
  ·right; exact ⟨q, by omega, fun x hx => by simp at hx⟩
theorem RfD.last (h : Dp n l dep) {k : Nat} {out : List Int} (hr : RfD n l dep n k out) : out = depL n dep := by
 apply List.ext_getElem?
 intro i
 by_cases hi : i < n
 ·have h1 := hr.1
  have hd := h.le i hi
  have e1 : out.getD i 0 = (dep i : Int) := by
   rcases hr.2 i hi with ⟨q, -⟩ | ⟨q, q2, -⟩ <;> omega
  have e2 : (depL n dep).getD i 0 = (dep i : Int) := tab_get _ _ _ _ hi
  have h2 : i < (depL n dep).length := by unfold depL; rw [tab_len]; exact hi
  rw [List.getD_eq_getElem?_getD, List.getElem?_eq_getElem (by omega)] at e1
  rw [List.getD_eq_getElem?_getD, List.getElem?_eq_getElem h2] at e2
  rw [List.getElem?_eq_getElem (by omega), List.getElem?_eq_getElem h2]
  simp only [Option.getD_some] at e1 e2
  rw [e1, e2]
 ·rw [List.getElem?_eq_none (by have := hr.1; omega), List.getElem?_eq_none (by unfold depL; rw [tab_len]; omega)]
structure Bfs (n : Nat) (l : List Ed) (dep : Nat → Nat) (d : Nat) (P : Ed → Prop) (out next : List Int) : Prop where
 len : out.length = n
 val : ∀ j, j < n → (out.getD j 0 = (dep j : Int) ∧ (dep j ≤ d ∨ (dep j = d + 1 ∧ (j : Int) ∈ next))) ∨ (out.getD j 0 = -1 ∧ d < dep j ∧ (j : Int) ∉ next)
 nod : next.Nodup
 nxt : ∀ x ∈ next, ∃ j : Nat, x = (j : Int) ∧ j < n ∧ dep j = d + 1
 seen : ∀ e ∈ l, P e → dep e.2.2.toNat = d + 1 → e.2.2 ∈ next
theorem nodup_lenc : ∀ {a b : List Int}, a.Nodup → (∀ x ∈ a, x ∈ b) → a.length ≤ b.length
 | [], _, _, _ => by simp
 | x :: a, b, hn, hs => by
  have hn' := List.nodup_cons.1 hn
  have hxb := hs x (List.mem_cons_self ..)
  have := nodup_lenc (a := a) (b := b.erase x) hn'.2 (fun y hy => (List.mem_erase_of_ne (fun (e : y = x) => hn'.1 (by rw [← e]; exact hy))).2 (hs y (List.mem_cons_of_mem _ hy)))
  rw [List.length_erase_of_mem hxb] at this
  have := List.length_pos_of_mem hxb
  simp; omega
theorem nodup_le {n : Nat} {r : List Int} (hn : r.Nodup) (h : ∀ x ∈ r, ∃ j : Nat, x = (j : Int) ∧ j < n) : r.length ≤ n := by
 have h1 : r.length ≤ ((List.range n).map (fun k : Nat => (k : Int))).length := by
  have hs : ∀ x ∈ r, x ∈ (List.range n).map (fun k : Nat => (k : Int)) := fun x hx => by
   obtain ⟨j, e, hj⟩ := h x hx
   exact List.mem_map.2 ⟨j, List.mem_range.2 hj, e.symm⟩
  exact nodup_lenc hn hs
 simpa using h1
theorem Bfs.nlen {d : Nat} {P : Ed → Prop} {out next : List Int} (h : Bfs n l dep d P out next) : next.length ≤ n := nodup_le h.nod fun x hx => let ⟨j, e, hj, _⟩ := h.nxt x hx; ⟨j, e, hj⟩
theorem Bfs.old {d : Nat} {P P' : Ed → Prop} {out next : List Int} (hd : Dp n l dep) (h : Bfs n l dep d P out next) {e : Ed} (he : e ∈ l) (hf : dep e.1.toNat = d) (ht : out.getD e.2.2.toNat 0 ≠ -1) (hP : ∀ x, P' x → P x ∨ x = e) : Bfs n l dep d P' out next := by
 obtain ⟨b1, b2, b3, b4⟩ := hd.ed e he
 refine ⟨h.len, h.val, h.nod, h.nxt, fun x hx hp hd' => ?_⟩
 rcases hP x hp with q | rfl
 ·exact h.seen x hx q hd'
 ·rcases h.val x.2.2.toNat (by omega) with ⟨q, q2⟩ | ⟨q, -⟩
  ·rcases q2 with a | ⟨-, a⟩
   ·omega
   ·rwa [show ((x.2.2.toNat : Nat) : Int) = x.2.2 from by omega] at a
  ·exact absurd q ht
theorem Bfs.new {d : Nat} {P P' : Ed → Prop} {out next : List Int} (hd : Dp n l dep) (h : Bfs n l dep d P out next) {e : Ed} (he : e ∈ l) (hf : dep e.1.toNat = d) (ht : out.getD e.2.2.toNat 0 = -1) (hP : ∀ x, P' x → P x ∨ x = e) : Bfs n l dep d P' (out.set e.2.2.toNat ((d : Int) + 1)) (next ++ [e.2.2]) := by
 obtain ⟨b1, b2, b3, b4⟩ := hd.ed e he
 have hlow := hd.low e he
 have h0 := h.val e.2.2.toNat (by omega)
 have hte : ((e.2.2.toNat : Nat) : Int) = e.2.2 := by omega
 have hnew : dep e.2.2.toNat = d + 1 ∧ e.2.2 ∉ next := by
  rcases h0 with ⟨q, -⟩ | ⟨q, q2, q3⟩
  ·omega
  ·rw [hte] at q3; exact ⟨by omega, q3⟩
 refine ⟨by rw [List.length_set]; exact h.len, fun j hj => ?_, ?_, fun x hx => ?_, fun x hx hp hd' => ?_⟩
 ·rw [getD_set _ _ _ _ _ (by rw [h.len]; omega)]
  by_cases ej : j = e.2.2.toNat
  ·subst ej
   rw [if_pos rfl, hnew.1]
   left
   exact ⟨by omega, .inr ⟨rfl, by rw [hte]; simp⟩⟩
  ·rw [if_neg ej]
   rcases h.val j hj with ⟨q, q2⟩ | ⟨q, q2, q3⟩
   ·left; exact ⟨q, q2.imp id (fun ⟨a, b⟩ => ⟨a, List.mem_append_left _ b⟩)⟩
   ·right
    refine ⟨q, q2, fun hm => ?_⟩
    rw [List.mem_append, List.mem_singleton] at hm
    rcases hm with hm | hm
    ·exact q3 hm
    ·omega
 ·rw [List.nodup_append]
  refine ⟨h.nod, by simp, fun a ha b hb => ?_⟩
  rw [List.mem_singleton] at hb
  subst hb
  exact fun e2 => hnew.2 (e2 ▸ ha)
 ·rw [List.mem_append, List.mem_singleton] at hx
  rcases hx with hx | rfl
  ·exact h.nxt x hx
  ·exact ⟨e.2.2.toNat, hte.symm, by omega, hnew.1⟩
 ·rcases hP x hp with q | rfl
  ·exact List.mem_append_left _ (h.seen x hx q hd')
  ·simp
def FrontD (n : Nat) (dep : Nat → Nat) (d : Nat) (fr : List Int) : Prop := fr.length ≤ n ∧ (∀ x ∈ fr, ∃ j : Nat, x = (j : Int) ∧ j < n ∧ dep j = d) ∧ ∀ j, j < n → dep j = d → (j : Int) ∈ fr
theorem Bfs.front {d : Nat} {P : Ed → Prop} {out next : List Int} (hd : Dp n l dep) (h : Bfs n l dep d P out next) (hP : ∀ e ∈ l, dep e.1.toNat = d → P e) : FrontD n dep (d + 1) next ∧ Bfs n l dep (d + 1) (fun _ => False) out [] := by
 have hall : ∀ j, j < n → dep j = d + 1 → (j : Int) ∈ next := fun j hj e => by
  have h0 : j ≠ 0 := fun e0 => by subst e0; rw [hd.d0] at e; omega
  obtain ⟨x, hx, h1, h2⟩ := hd.par j (by omega) hj
  have := h.seen x hx (hP x hx (by omega)) (by rw [show x.2.2.toNat = j from by omega]; exact e)
  rwa [h1] at this
 refine ⟨⟨h.nlen, h.nxt, hall⟩, h.len, fun j hj => ?_, .nil, fun x hx => by simp at hx, fun _ _ hf => hf.elim⟩
 rcases h.val j hj with ⟨q, q2⟩ | ⟨q, q2, q3⟩
 ·left; exact ⟨q, .inl (by rcases q2 with a | ⟨a, -⟩ <;> omega)⟩
 ·right
  exact ⟨q, by have : dep j ≠ d + 1 := fun e => q3 (hall j hj e); omega, by simp⟩
theorem Bfs.start (h : Dp n l dep) (hn : 0 < n) {out : List Int} (hl : out.length = n) (h0 : out.getD 0 0 = 0) (h1 : ∀ j, 1 ≤ j → j < n → out.getD j 0 = -1) : FrontD n dep 0 [0] ∧ Bfs n l dep 0 (fun _ => False) out [] := by
 have hpos : ∀ j, j < n → dep j = 0 → j = 0 := fun j hj e => Classical.byContradiction fun h0 => by
  obtain ⟨x, -, -, h2⟩ := h.par j (by omega) hj
  omega
 refine ⟨⟨hn, fun x hx => ?_, fun j hj e => by rw [hpos j hj e]; simp⟩, hl, fun j hj => ?_, .nil, fun x hx => by simp at hx, fun _ _ hf => hf.elim⟩
 ·rw [List.mem_singleton] at hx
  exact ⟨0, hx, hn, h.d0⟩
 ·by_cases e : j = 0
  ·subst e; left; rw [h.d0]; exact ⟨h0, .inl (Nat.le_refl _)⟩
  ·right
   exact ⟨h1 j (by omega) hj, by have : dep j ≠ 0 := fun e' => e (hpos j hj e'); omega, by simp⟩
theorem Bfs.last (h : Dp n l dep) {d : Nat} {out : List Int} (hf : FrontD n dep d []) (hb : Bfs n l dep d (fun _ => False) out []) : out = depL n dep := by
 have hlt : ∀ m j, j < n → dep j = m → m < d := by
  intro m
  induction m with
  | zero => intro j hj e; exact Classical.byContradiction fun hc => by have := hf.2.2 j hj (by omega); simp at this
  | succ m ih =>
   intro j hj e
   have h0 : j ≠ 0 := fun e0 => by subst e0; rw [h.d0] at e; omega
   obtain ⟨x, hx, h1, h2⟩ := h.par j (by omega) hj
   have hx' := h.ed x hx
   have := ih x.1.toNat (by omega) (by omega)
   exact Classical.byContradiction fun hc => by have := hf.2.2 j hj (by omega); simp at this
 have hr : RfD n l dep n 0 out := by
  refine ⟨hb.len, fun j hj => ?_⟩
  have := hlt _ j hj rfl
  have := h.le j hj
  rcases hb.val j hj with ⟨q, -⟩ | ⟨q, q2, -⟩
  ·left; exact ⟨q, .inl (by omega)⟩
  ·omega
 exact hr.last h
end
def cntD (dep : Nat → Nat) (k v : Nat) : Nat := (List.range k).countP (fun j => decide (dep j = v))
theorem cntD_succ (dep : Nat → Nat) (k v : Nat) : cntD dep (k + 1) v = cntD dep k v + if dep k = v then 1 else 0 := by
 unfold cntD
 rw [List.range_succ, List.countP_append]
 simp [List.countP_cons]
def widL (n : Nat) (dep : Nat → Nat) : List Int := tab (dep (n - 1) + 1) (fun v => (cntD dep n v : Int))
theorem cntD_pos {dep : Nat → Nat} {k v : Nat} : 0 < cntD dep k v ↔ ∃ j, j < k ∧ dep j = v := by
 unfold cntD
 rw [List.countP_pos_iff]
 simp
section
variable {n : Nat} {l : List Ed} {dep : Nat → Nat}
theorem Dp.all (h : Dp n l dep) : ∀ (m v : Nat), m < n → v ≤ dep m → ∃ j, j ≤ m ∧ dep j = v := by
 have step : ∀ j, j + 1 < n → dep (j + 1) ≤ dep j + 1 := fun j hj => by
  obtain ⟨x, hx, h1, h2⟩ := h.par (j + 1) (by omega) hj
  have hx' := h.ed x hx
  have hlt : ¬ (j + 1 ≤ x.1.toNat) := fun hc => by
   have := h.mono _ _ hc (by omega); omega
  have := h.mono x.1.toNat j (by omega) (by omega)
  omega
 intro m
 induction m with
 | zero => intro v h0 hv; exact ⟨0, Nat.le_refl _, by rw [h.d0] at hv ⊢; omega⟩
 | succ m ih =>
  intro v hm hv
  by_cases e : v ≤ dep m
  ·obtain ⟨j, h1, h2⟩ := ih v (by omega) e
   exact ⟨j, by omega, h2⟩
  ·have := step m hm
   exact ⟨m + 1, Nat.le_refl _, by omega⟩
theorem Dp.wpos (h : Dp n l dep) (hn : 0 < n) {v : Nat} : 0 < cntD dep n v ↔ v ≤ dep (n - 1) := by
 rw [cntD_pos]
 constructor
 ·rintro ⟨j, hj, rfl⟩; exact h.mono j (n - 1) (by omega) (by omega)
 ·intro hv
  obtain ⟨j, h1, h2⟩ := h.all (n - 1) v (by omega) hv
  exact ⟨j, by omega, h2⟩
end
end Go.Proofs.Ytlhpjfnfemebdaa
namespace Go.Proofs.Ytlhpjfnfemebdaa
open Go.RowKit
structure SpV (w : World) (v : Value) (s : Sp) : Prop where
 var : ∃ vC sa sc aa ac ta tc vP vA, v = .agg #[vC, .slice sa (buildG s.confs.length s.ed).S.length sc, .slice aa (buildG s.confs.length s.ed).A.length ac, .slice ta (buildG s.confs.length s.ed).T.length tc, vP, vA] ∧ ConfsAt w vC s.confs ∧ GraphAt w (.agg #[.slice sa (buildG s.confs.length s.ed).S.length sc, .slice aa (buildG s.confs.length s.ed).A.length ac, .slice ta (buildG s.confs.length s.ed).T.length tc]) (buildG s.confs.length s.ed) ∧ IntsAt w vP s.par ∧ IntsAt w vA s.ag
theorem SpV.below {w w' : World} {v : Value} {s : Sp} (h : SpV w v s) (hb : Below w.heap.size w w') : SpV w' v s :=
 let ⟨vC, sa, sc, aa, ac, ta, tc, vP, vA, e, h1, h2, h3, h4⟩ := h.var
 ⟨vC, sa, sc, aa, ac, ta, tc, vP, vA, e, h1.below hb, h2.below hb, h3.below hb, h4.below hb⟩
theorem csr_nodesc {n : Nat} {l : List Ed} (h : buildOk n l = true) : nodesN (csr n l) = n := by
 rw [nodesN_right (csr_right h)]
 simp [csr, tab_len]
theorem Bfs.imp {n : Nat} {l : List Ed} {dep : Nat → Nat} {d : Nat} {P P' : Ed → Prop} {out next : List Int} (h : Bfs n l dep d P out next) (hP : ∀ e ∈ l, P' e → P e) : Bfs n l dep d P' out next :=
 ⟨h.len, h.val, h.nod, h.nxt, fun e he hp => h.seen e he (hP e he hp)⟩
theorem sp_right {n : Nat} {l : List Ed} (h : buildOk (n : Int) l = true) : Rt (buildG n l) ∧ nodesN (buildG n l) = n ∧ (∀ e, e ∈ allL (buildG n l) ↔ e ∈ l) ∧ ∀ i, i < n → outL (buildG n l) (i : Nat) = outs l i := by
 have e : buildG (n : Int) l = csr n l := by unfold buildG; rw [if_pos h, Int.toNat_natCast]
 rw [e]
 have hR := csr_right h
 refine ⟨hR, csr_nodesc h, fun x => mem_all_csr h x, fun i hi => ?_⟩
 unfold outL
 have hS : (csr n l).S.length = n + 1 := by unfold csr; exact tab_len _ _
 rw [if_pos ⟨(rightB_iff _).2 hR, by omega, by rw [hS]; omega⟩, Int.toNat_natCast, eds_csr h hi]
end Go.Proofs.Ytlhpjfnfemebdaa
namespace Go.Proofs.Ytlhpjfnfemebdaa
open Go.RowKit
set_option maxRecDepth 100000 in
set_option maxHeartbeats 64000000 in
theorem start_ok (uv : Value) (u : PUn) (w : World) (hu : UnV w uv u) (hR : rightU u = true) (hL : UnL u) :
  Calls Try.prog 42 #[uv] w fun r w' => ∃ vp vr vm vb rv bv, r = .returned (.tuple #[.agg #[vp, vr, vm, vb], .int .i64 0]) ∧ OwnC w.heap.size w' vp vr vm vb rv bv (startC u) ∧ Below w.heap.size w w' := by
 obtain ⟨i0, hi0, hz0, hz1, hz2⟩ := info_parts Try.info3
 obtain ⟨i2, hi2, hy0, hy1, hy2⟩ := info_parts infoI22
 obtain ⟨i4, hi4, hv0, hv1, hv2⟩ := info_parts infoE99
 have HRT := Lib.hid (fun (w' : World) (hb : Below w.heap.size w w') => rightu_ok uv u w' (hu.below hb) hL)
 rw [hR] at HRT
 obtain ⟨-, -, hil6, ⟨hrl1, hrl4⟩, -, hrow6⟩ := rightU_iff.1 hR
 have HRG : Hid (∀ t, t < u.regs.length → 0 ≤ u.regs.getD t 0 ∧ u.regs.getD t 0 ≤ 6) := Lib.hid (fun t ht => (rowU_iff.1 (hrow6 t ht)).1)
 obtain ⟨ia, ic, ga, gc, ca, cc, rfl, h1, h2, -⟩ := hu.var
 have HI := Lib.hid h1
 obtain ⟨ga', gc', eg, h2⟩ := h2
 cases eg
 have HG := Lib.hid h2
 have S0 := Lib.hid (Bx2.start w #[.int .i64 u.mod, .slice ia u.init.length ic, .slice ga u.regs.length gc, .slice ca u.code.length cc] 25 #[.slice none 0 0, .slice none 0 0, .slice none 0 0, .slice none 0 0] 52)
 obtain ⟨RGS, hRGS⟩ : ∃ l, l = u.regs.map (fun r => List.replicate r.toNat (0 : Int)) := ⟨_, rfl⟩
 have HRL : Hid (RGS.length = u.regs.length) := Lib.hid (by rw [hRGS, List.length_map])
 have HRX : Hid (∀ t, t < u.regs.length → RGS.take (t + 1) = RGS.take t ++ [List.replicate (u.regs.getD t 0).toNat 0]) := Lib.hid (fun t ht => by
  have ht' : t < RGS.length := by rw [hRGS, List.length_map]; exact ht
  rw [List.take_add_one, List.getElem?_eq_getElem ht']
  congr 1
  simp [hRGS, List.getD, ht])
 unfold startC
 rw [← hRGS]
 clear hu hR hL h1 h2 hrow6 hRGS
 go_enter Try.func42, Try.ntmps42
 go_wp2_with (go_at_call 36; refine (HRT.out _ S0.out.below).mono ?_; rintro e1 w1 ⟨rfl, hb1⟩; have S1 := Lib.hid (S0.out.more hb1); clear hb1 HRT S0)
 have C0 : Hid (StM w (w1.alloc (.cells #[.slice none 0 0, .slice none 0 0, .slice none 0 0, .slice none 0 0] 52)) #[.int .i64 u.mod, .slice ia u.init.length ic, .slice ga u.regs.length gc, .slice ca u.code.length cc] w1.heap.size (.slice none 0 0) (.slice none 0 0) (.slice none 0 0) (.slice none 0 0)) := Lib.hid (by
  have hs := (Array.getElem?_eq_some_iff.1 S1.out.blk2).1
  exact ⟨S1.out.below.trans ((balloc w1 _).mono S1.out.below.size), bheap (balloc w1 _) S1.out.blk1, bheap (balloc w1 _) S1.out.blk2, heap_alloc_new w1 _, by omega⟩)
 generalize w1.heap.size = D at *
 generalize w1.alloc (.cells #[.slice none 0 0, .slice none 0 0, .slice none 0 0, .slice none 0 0] 52) = w2 at *
 clear S1
 go_loopg [5] u.regs.length (fun fu q wr => ∃ (k : Nat) (rv : List Value) (vp vr vb : Value), k + fu = u.regs.length ∧ q = .int .i64 k ∧ Hid (StM w wr #[.int .i64 u.mod, .slice ia u.init.length ic, .slice ga u.regs.length gc, .slice ca u.code.length cc] D vp vr (.slice none 0 0) vb) ∧ Hid (StS (D + 1) wr vp vr vb (List.replicate k 0) (RGS.take k) rv k))
 case atStart => exact ⟨0, [], _, _, _, by omega, rfl, C0, Lib.hid (StS.nil _ _)⟩
 case round =>
  clear C0
  obtain ⟨k, rv, vp, vr, vb, hk, rfl, C, S⟩ := hrel
  have a2 := cell_of_block C.out.bu 2 (.slice ga u.regs.length gc) rfl
  by_cases hlt : k < u.regs.length
  ·have z1 : (k : Int) < (u.regs.length : Int) := by omega
   have hol : k ≤ 1000 := by omega
   obtain ⟨bg, og, rfl, xg⟩ := HG.out k hlt
   obtain ⟨hn0, hn6⟩ := HRG.out k hlt
   obtain ⟨n, hn⟩ : ∃ n : Nat, u.regs.getD k 0 = (n : Int) := ⟨(u.regs.getD k 0).toNat, by omega⟩
   have HTK := Lib.hid (HRX.out k hlt)
   have HLK : Hid ((RGS.take k).length = k) := Lib.hid (by rw [List.length_take, HRL.out]; omega)
   rw [hn, Int.toNat_natCast] at HTK
   rw [hn] at xg hn0 hn6
   clear HRX HRG HG hn
   obtain ⟨vpa, vpc, rfl⟩ := ownv S.out.pc
   obtain ⟨vra, vrc, hvr⟩ := ownv S.out.regs.out
   rw [HLK.out] at hvr
   subst hvr
   obtain ⟨vba, vbc, rfl⟩ := ownv S.out.buf
   rw [List.length_replicate] at S C
   have d0 := cell_of_block C.out.bd 0 (.slice vpa k vpc) rfl
   have f0 := free_of_block C.out.bd 0
   go_wp2_with (at_builtin; refine wpList_append_lies (wr.alloc (.cells #[.int .i64 0] 3)) rfl (.tmp 19) (.tmp 20) 22 rfl (D + 1) 3 i0 (.int .i64 0) 1 8 Try.underlying22 hi0 hz0 hz1 hz2 rfl (by decide) (.slice vpa k vpc) k (List.replicate k (.int .i64 0)) rfl (World.ownsRow.alloc (by have := S.out.pc; unfold OwnI at this; rwa [List.length_replicate, List.map_replicate] at this) _) ⟨wr.heap.size, 0, none⟩ 1 1 [.int .i64 0] rfl rfl (World.news_of_block (heap_alloc_new _ _)) (by simp [Value.oneCell']) (by omega) (by unfold maxLen; omega) (by omega) (by have := C.out.size; simp; omega) (wr.heap.size + 1) (by simp) ?_; intro g3 cap3 w3 hown3 hgr3 hor3 hlt3; have T3 := Lib.hid (S.out.pushP (v' := .slice (some ⟨g3, 0, none⟩) (k + 1) cap3) hgr3 (by rw [List.length_replicate, List.map_replicate]; exact hown3) (own_hor hor3 (by omega))); have C3 := Lib.hid ((C.out.alloc (.cells #[.int .i64 0] 3)).grown hgr3 (fun q hq => (World.ownsRow.lt S.out.pc q hq).1)); clear hown3 hgr3 hor3 hlt3; clear d0 f0; have d0 := cell_of_block C3.out.bd 0 _ rfl; have f0 := free_of_block C3.out.bd 0)
   have C4 := Lib.hid (C3.out.put0 (.slice (some ⟨g3, 0, none⟩) (k + 1) cap3))
   have T4 := Lib.hid (T3.out.setlow (b := D) (i := 0) (by omega) (.slice (some ⟨g3, 0, none⟩) (k + 1) cap3))
   clear d0 f0 C3 T3 C S a2
   generalize w3.setCell ⟨D, 0, none⟩ (.slice (some ⟨g3, 0, none⟩) (k + 1) cap3) = w4 at *
   have d1 := cell_of_block C4.out.bd 1 (.slice vra k vrc) rfl
   have a2 := cell_of_block C4.out.bu 2 (.slice (some ⟨bg, og, none⟩) u.regs.length gc) rfl
   have xg := bkeep C4.out.low xg
   have hmk := run_make_row' (P := Try.prog) 22 3 (.int .i64 0) 8 Try.underlying22 Try.info3 rfl .i64 .i64 n (by omega) (by omega)
   refine region_rel_tail 9 (fun q => match q with | 23 => u23 | 24 => u24 | 25 => u25 | 26 => u26 | 27 => u27 | 28 => u28 | 29 => u29 | 30 => u30 | 31 => u31 | _ => undef)
    (fun f => { tmps := #[.agg #[.int .i64 u.mod, .slice ia u.init.length ic, .slice (some ⟨bg, og, none⟩) u.regs.length gc, .slice ca u.code.length cc], .pointer (some ⟨w.heap.size, 0, none⟩), .pointer (some ⟨w.heap.size + 1, 0, none⟩), .int .i64 0, .pointer (some ⟨D, 0, none⟩), .int .i64 (k : Nat), .agg #[.int .i64 u.mod, .slice ia u.init.length ic, .slice (some ⟨bg, og, none⟩) u.regs.length gc, .slice ca u.code.length cc], .bool true, .bool false, undef, .agg #[.slice none 0 0, .slice none 0 0, .slice none 0 0, .slice none 0 0], .int .i64 (k : Nat), .pointer (some ⟨w.heap.size, 2, none⟩), .slice (some ⟨bg, og, none⟩) u.regs.length gc, .int .i64 (u.regs.length : Nat), .bool true, u16, u17, .pointer (some ⟨D, 0, none⟩), .slice vpa k vpc, .slice (some ⟨wr.heap.size, 0, none⟩) 1 1, .slice (some ⟨g3, 0, none⟩) (k + 1) cap3, .pointer (some ⟨D, 0, none⟩), f 23, f 24, f 25, f 26, f 27, f 28, f 29, f 30, f 31, u32, u33, u34, u35, u36, u37, u38, undef, undef, undef, undef, undef, undef, undef], defers := [] }) (fun j => j + 23)
    (makeRel w4 n [(.pointer (some ⟨D, 1, none⟩)), (.slice vra k vrc), (.pointer (some ⟨w.heap.size, 2, none⟩)), (.slice (some ⟨bg, og, none⟩) u.regs.length gc), (.int .i64 (k : Nat)), (.pointer (some ⟨bg, og + k, none⟩)), (.int .i64 (n : Nat))])
    rfl (by kernel_rfl) (by kernel_rfl) (by kernel_rfl) (by decide) (by kernel_rfl) (fun i u w w' hb h => makeRel_mono hb h) (by kernel_rfl) (by kernel_rfl) ?_ ?_ ?_
   ·intro j hj f v
    rcases j with _ | _ | _ | _ | _ | _ | _ | _ | _ | j
    all_goals first | rfl | omega | (simp at hj; omega)
   ·refine ⟨?_, ?_, ?_, ?_, ?_, ?_, ?_, ?_, ?_, trivial⟩
    ·intro f w' hb hd K hK
     dsimp only
     go_simp
     exact hK (.pointer (some ⟨D, 1, none⟩)) w' (Below.refl _ _) rfl
    ·intro f w' hb hd K hK
     have h0 : f 23 = (.pointer (some ⟨D, 1, none⟩)) := hd 0 (by kernel_rfl)
     have e0 := bkeep hb d1
     dsimp only
     go_simp
     have q := hK (.slice vra k vrc) w' (Below.refl _ _) rfl
     simp only [h0] at q
     exact q
    ·intro f w' hb hd K hK
     dsimp only
     go_simp
     exact hK (.pointer (some ⟨w.heap.size, 2, none⟩)) w' (Below.refl _ _) rfl
    ·intro f w' hb hd K hK
     have h2 : f 25 = (.pointer (some ⟨w.heap.size, 2, none⟩)) := hd 2 (by kernel_rfl)
     have e0 := bkeep hb a2
     dsimp only
     go_simp
     have q := hK (.slice (some ⟨bg, og, none⟩) u.regs.length gc) w' (Below.refl _ _) rfl
     simp only [h2] at q
     exact q
    ·intro f w' hb hd K hK
     dsimp only
     go_simp
     exact hK (.int .i64 (k : Nat)) w' (Below.refl _ _) rfl
    ·intro f w' hb hd K hK
     have h3 : f 26 = (.slice (some ⟨bg, og, none⟩) u.regs.length gc) := hd 3 (by kernel_rfl)
     have h4 : f 27 = (.int .i64 (k : Nat)) := hd 4 (by kernel_rfl)
     dsimp only
     go_simp
     have q := hK (.pointer (some ⟨bg, og + k, none⟩)) w' (Below.refl _ _) rfl
     simp only [h3, h4] at q
     exact q
    ·intro f w' hb hd K hK
     have h5 : f 28 = (.pointer (some ⟨bg, og + k, none⟩)) := hd 5 (by kernel_rfl)
     have e0 := bkeep hb xg
     dsimp only
     go_simp
     have q := hK (.int .i64 (n : Nat)) w' (Below.refl _ _) rfl
     simp only [h5] at q
     exact q
    ·intro f w' hb hd K hK
     have h6 : f 29 = (.int .i64 (n : Nat)) := hd 6 (by kernel_rfl)
     have hw1 : w4.heap.size ≤ w'.heap.size := hb.size
     dsimp only
     go_simp
     have q := hK _ _ (balloc w' _) (makeRel7 (vs := [(.pointer (some ⟨D, 1, none⟩)), (.slice vra k vrc), (.pointer (some ⟨w.heap.size, 2, none⟩)), (.slice (some ⟨bg, og, none⟩) u.regs.length gc), (.int .i64 (k : Nat)), (.pointer (some ⟨bg, og + k, none⟩)), (.int .i64 (n : Nat))]) hw1 (by omega))
     simp only [h6] at q
     exact q
    ·intro f w' hb hd K hK
     obtain ⟨g7, h7, ho7⟩ : ∃ g, f 30 = .slice (some ⟨g, 0, none⟩) n n ∧ OwnI w4.heap.size w' (f 30) (List.replicate n 0) := hd 7 (by kernel_rfl)
     rw [h7] at ho7
     dsimp only
     go_simp
     have q := hK _ _ (balloc w' _) (makeRel8 (vs := [(.pointer (some ⟨D, 1, none⟩)), (.slice vra k vrc), (.pointer (some ⟨w.heap.size, 2, none⟩)), (.slice (some ⟨bg, og, none⟩) u.regs.length gc), (.int .i64 (k : Nat)), (.pointer (some ⟨bg, og + k, none⟩)), (.int .i64 (n : Nat))]) ho7)
     simp only [h7] at q
     exact q
   intro f w5 hb5 hr
   have h24 : f 24 = .slice vra k vrc := hr 1 (by decide)
   obtain ⟨g6, b6, h31, hbk, hro⟩ : ∃ g b, f 31 = .slice (some ⟨b, 0, none⟩) 1 1 ∧ w5.heap[b]? = some (.cells #[.slice (some ⟨g, 0, none⟩) n n] 22 (0, 0)) ∧ OwnI w4.heap.size w5 (.slice (some ⟨g, 0, none⟩) n n) (List.replicate n 0) := hr 8 (by decide)
   clear hr hmk
   simp only [h24, h31, List.drop_succ_cons, List.drop_zero]
   generalize f 23 = x23
   generalize f 25 = x25
   generalize f 26 = x26
   generalize f 27 = x27
   generalize f 28 = x28
   generalize f 29 = x29
   generalize f 30 = x30
   have HLT := Lib.hid T4.out.lts
   have HRN : Hid (∀ q, (Value.slice (some ⟨g6, 0, none⟩) n n).ownBlock = some q → w4.heap.size ≤ q) := Lib.hid (fun q e => (World.ownsRow.lt hro q e).1)
   have HDW : Hid (D + 1 ≤ w4.heap.size) := Lib.hid C4.out.size
   have HRO := Lib.hid (ownlow hro HDW.out)
   have C5 := Lib.hid (C4.out.more hb5)
   have T5 := Lib.hid (T4.out.more hb5)
   have HBK := Lib.hid hbk
   clear hro hbk C4 T4 d1 a2 xg hb5
   have d1 := cell_of_block C5.out.bd 1 (.slice vra k vrc) rfl
   have f1 := free_of_block C5.out.bd 1
   go_wp2_with (first
    | (at_builtin; refine wpList_append_lies ((w7.setCell ⟨D, 1, none⟩ (.slice (some ⟨g7, 0, none⟩) (k + 1) cap7)).alloc (.cells #[.slice none 0 0] 99)) rfl (.tmp 35) (.tmp 36) 50 rfl (D + 1) 99 i4 (.slice none 0 0) 1 24 Try.underlying50 hi4 hv0 hv1 hv2 rfl (by decide) (.slice vba k vbc) k (List.replicate k nilV) rfl (World.ownsRow.alloc T8.out.buf _) ⟨w7.heap.size, 0, none⟩ 1 1 [.slice none 0 0] rfl rfl (World.news_of_block (by rw [← HS8.out]; exact heap_alloc_new _ _)) (by simp [Value.oneCell']) (by omega) (by unfold maxLen; omega) (by omega) (by have := C8.out.size; simp only [alloc_size]; omega) ((w7.setCell ⟨D, 1, none⟩ (.slice (some ⟨g7, 0, none⟩) (k + 1) cap7)).heap.size + 1) (by simp) ?_; intro g9 cap9 w9 hown9 hgr9 hor9 hlt9; have T9 := Lib.hid (T8.out.pushB (v' := .slice (some ⟨g9, 0, none⟩) (k + 1) cap9) hgr9 hown9 (own_hor hor9 (by omega))); have C9 := Lib.hid ((C8.out.alloc (.cells #[.slice none 0 0] 99)).grown hgr9 (fun q hq => (World.ownsRow.lt T8.out.buf q hq).1)); clear hown9 hgr9 hor9 hlt9 d3; have d3 := cell_of_block C9.out.bd 3 (.slice vba k vbc) rfl; have f3 := free_of_block C9.out.bd 3)
    | (at_builtin; refine wpList_append_lies w5 rfl (.tmp 24) (.tmp 31) 49 rfl (D + 1) 22 i2 (.slice none 0 0) 1 24 Try.underlying49 hi2 hy0 hy1 hy2 rfl (by decide) (.slice vra k vrc) k rv rfl (by have := T5.out.regs.out; rwa [HLK.out] at this) ⟨b6, 0, none⟩ 1 1 [.slice (some ⟨g6, 0, none⟩) n n] rfl rfl (World.news_of_block HBK.out) (by simp [Value.oneCell']) (by omega) (by unfold maxLen; omega) (by omega) (by have := C5.out.size; omega) w5.heap.size rfl ?_; intro g7 cap7 w7 hown7 hgr7 hor7 hlt7; have T7 := Lib.hid (T5.out.pushR HLT.out HRO.out HRN.out hgr7 (by rw [HLK.out]; exact hown7) (own_hor (n := k + 1) (cap := cap7) hor7 (by omega))); have C7 := Lib.hid (C5.out.grown hgr7 (fun q hq => (World.ownsRow.lt T5.out.regs.out q hq).1)); clear hown7 hgr7 hor7 hlt7 d1 f1; have d1 := cell_of_block C7.out.bd 1 (.slice vra k vrc) rfl; have f1 := free_of_block C7.out.bd 1; have C8 := Lib.hid (C7.out.put1 (.slice (some ⟨g7, 0, none⟩) (k + 1) cap7)); have T8 := Lib.hid (T7.out.setlow (b := D) (i := 1) (by omega) (.slice (some ⟨g7, 0, none⟩) (k + 1) cap7)); have d3 := cell_of_block C8.out.bd 3 (.slice vba k vbc) rfl; have HS8 : Hid ((w7.setCell ⟨D, 1, none⟩ (.slice (some ⟨g7, 0, none⟩) (k + 1) cap7)).heap.size = w7.heap.size) := Lib.hid (by simp)))
   have CF := Lib.hid (C9.out.put3 (.slice (some ⟨g9, 0, none⟩) (k + 1) cap9))
   have TF := T9.out.setlow (b := D) (i := 3) (by omega) (.slice (some ⟨g9, 0, none⟩) (k + 1) cap9)
   rw [← HTK.out, ← List.replicate_succ'] at TF
   have TF := Lib.hid TF
   go_roundg (u.regs.length - (k + 1))
   case measure => omega
   case rel => exact ⟨k + 1, _, _, _, _, by omega, by simp, CF, TF⟩
  ·obtain rfl : k = u.regs.length := by omega
   have S9 := Lib.hid (show StS (D + 1) wr vp vr vb (List.replicate u.regs.length 0) RGS rv u.regs.length by have := S.out; rwa [← HRL.out, List.take_length, HRL.out] at this)
   have HML := Lib.hid ((HI.out.below C.out.low).src)
   have a1 := cell_of_block C.out.bu 1 (.slice ia u.init.length ic) rfl
   have d2 := cell_of_block C.out.bd 2 (.slice none 0 0) rfl
   have f2 := free_of_block C.out.bd 2
   obtain ⟨s0, t0, hs0⟩ := ownv S9.out.pc
   rw [List.length_replicate] at hs0
   subst hs0
   obtain ⟨s1, t1, rfl⟩ := ownv S9.out.regs.out
   obtain ⟨s3, t3, rfl⟩ := ownv S9.out.buf
   clear S HRX HRG HG
   go_wp2_with (at_builtin; refine wp_gcopy rfl (.tmp 40) (.tmp 42) rfl Try.underlying22 hi0 hz0 hz1 hz2 rfl (by decide) (D + 1) rfl rfl HML.out (by omega) (by omega) C.out.size ?_; intro ad6 cap6 w6 hown6 hgr6 hor6; have OC6 := Lib.hid (S9.out.conf hgr6 (vm := .slice ad6 u.init.length cap6) hown6 (fun q h => Nat.le_of_eq (hor6 q h).symm)); have C6 := Lib.hid (C.out.grown hgr6 (fun k hk => by cases hk)); clear hown6 hgr6 hor6 a1 a2 d2 f2; have d2 := cell_of_block C6.out.bd 2 _ rfl; have f2 := free_of_block C6.out.bd 2; have C7 := Lib.hid (C6.out.put2 (.slice ad6 u.init.length cap6)); have OC7 := Lib.hid (OC6.out.setlow (b := D) (i := 2) (by omega) (.slice ad6 u.init.length cap6)); have d0 := cell_of_block C7.out.bd 0 _ rfl; have d1 := cell_of_block C7.out.bd 1 _ rfl; have d4 := cell_of_block C7.out.bd 2 _ rfl; have d3 := cell_of_block C7.out.bd 3 _ rfl; have r0 := cell_of_block C7.out.br 0 (.slice none 0 0) rfl; have r1 := cell_of_block C7.out.br 1 (.slice none 0 0) rfl; have r2 := cell_of_block C7.out.br 2 (.slice none 0 0) rfl; have r3 := cell_of_block C7.out.br 3 (.slice none 0 0) rfl; have g0 := free_of_block C7.out.br 0; have g1 := free_of_block C7.out.br 1; have g2 := free_of_block C7.out.br 2; have g3 := free_of_block C7.out.br 3)
   obtain ⟨OF, BF, k0, k1, k2, k3⟩ := start_end C7.out OC7.out
   refine bodyPost_ret (v := .tuple #[.agg #[.slice s0 u.regs.length t0, .slice s1 RGS.length t1, .slice ad6 u.init.length cap6, .slice s3 u.regs.length t3], .int .i64 0]) (by simp [results, Try.results42, go_sem, k0, k1, k2, k3]) rfl ?_
   first
    | exact ⟨_, _, _, _, rfl, ⟨_, _, OF⟩, BF⟩
    | exact ⟨_, _, _, _, _, _, rfl, OF, BF⟩
end Go.Proofs.Ytlhpjfnfemebdaa
