/-
  Configurations; what a thread reads, and what an expression is to it. What an expression is to a thread; whether it can go on; whether a store can go out. A copy of a configuration: all its rows the call's own, apart.
-/
import Derived.Deep.AppendSrc
import Derived.Test.YtlhpjfnfemebdaaJMachS
import Derived.Test.YtlhpjfnfemebdaaMachU
import Derived.Test.YtlhpjfnfemebdaaJRowsM
import Derived.Test.YtlhpjfnfemebdaaJMachP
import Derived.Test.YtlhpjfnfemebdaaMachW
namespace Go.Proofs.Ytlhpjfnfemebdaa
open Go.RowKit
structure Cf where
 pc : List Int
 regs : List (List Int)
 mem : List Int
 buf : List (List En)
def BufsAt (w : World) (v : Value) (bs : List (List En)) : Prop := ∃ a cap, v = .slice a bs.length cap ∧ ∀ j, j < bs.length → ∃ b o u, a = some ⟨b, o, none⟩ ∧ w.cell? ⟨b, o + j, none⟩ = some u ∧ EnsAt w u (bs.getD j [])
theorem BufsAt.below {w w' : World} {v : Value} {bs : List (List En)} (h : BufsAt w v bs) (hb : Below w.heap.size w w') : BufsAt w' v bs :=
 let ⟨a, c, e, h1⟩ := h
 ⟨a, c, e, fun j hj => let ⟨b, o, u, e, h2, h3⟩ := h1 j hj; ⟨b, o, u, e, bkeep hb h2, h3.below hb⟩⟩
def CfV (w : World) (v : Value) (c : Cf) : Prop := ∃ vp vr vm vb, v = .agg #[vp, vr, vm, vb] ∧ IntsAt w vp c.pc ∧ RowsAt w vr c.regs ∧ IntsAt w vm c.mem ∧ BufsAt w vb c.buf
theorem CfV.below {w w' : World} {v : Value} {c : Cf} (h : CfV w v c) (hb : Below w.heap.size w w') : CfV w' v c :=
 let ⟨vp, vr, vm, vb, e, h1, h2, h3, h4⟩ := h
 ⟨vp, vr, vm, vb, e, h1.below hb, h2.below hb, h3.below hb, h4.below hb⟩
theorem CfV.var {w : World} {v : Value} {c : Cf} (h : CfV w v c) : ∃ pa pc ra rc ma mc ba bc, v = .agg #[.slice pa c.pc.length pc, .slice ra c.regs.length rc, .slice ma c.mem.length mc, .slice ba c.buf.length bc] ∧ IntsAt w (.slice pa c.pc.length pc) c.pc ∧ RowsAt w (.slice ra c.regs.length rc) c.regs ∧ IntsAt w (.slice ma c.mem.length mc) c.mem ∧ BufsAt w (.slice ba c.buf.length bc) c.buf := by
 obtain ⟨vp, vr, vm, vb, rfl, h1, h2, h3, h4⟩ := h
 obtain ⟨pa, pc, e1, -⟩ := id h1
 obtain ⟨ra, rc, e2, -⟩ := id h2
 obtain ⟨ma, mc, e3, -⟩ := id h3
 obtain ⟨ba, bc, e4, -⟩ := id h4
 subst e1 e2 e3 e4
 exact ⟨pa, pc, ra, rc, ma, mc, ba, bc, rfl, h1, h2, h3, h4⟩
theorem UnV.var {w : World} {v : Value} {u : PUn} (h : UnV w v u) : ∃ ia ic ra rc ca cc, v = .agg #[.int .i64 u.mod, .slice ia u.init.length ic, .slice ra u.regs.length rc, .slice ca u.code.length cc] ∧ IntsAt w (.slice ia u.init.length ic) u.init ∧ IntsAt w (.slice ra u.regs.length rc) u.regs ∧ CodeAt w (.slice ca u.code.length cc) u.code := by
 obtain ⟨vi, vr, vc, rfl, h1, h2, h3⟩ := h
 obtain ⟨ia, ic, e1, -⟩ := id h1
 obtain ⟨ra, rc, e2, -⟩ := id h2
 obtain ⟨ca, cc, e3, -⟩ := id h3
 subst e1 e2 e3
 exact ⟨ia, ic, ra, rc, ca, cc, rfl, h1, h2, h3⟩
structure CfOk (u : PUn) (L : Nat) (c : Cf) : Prop where
 npc : c.pc.length = u.regs.length
 nregs : c.regs.length = u.regs.length
 nbuf : c.buf.length = u.regs.length
 nmem : c.mem.length = u.init.length
 pc : ∀ t, t < u.regs.length → 0 ≤ c.pc.getD t 0 ∧ c.pc.getD t 0 < ((u.code.getD t []).length : Int)
 rlen : ∀ t, t < u.regs.length → ((c.regs.getD t []).length : Int) = u.regs.getD t 0
 reg : ∀ t, t < u.regs.length → allR (c.regs.getD t []) u.mod = true
 mem : allR c.mem u.mod = true
 blen : ∀ t, t < u.regs.length → (c.buf.getD t []).length ≤ L
 ens : ∀ t, t < u.regs.length → ∀ y ∈ c.buf.getD t [], (0 ≤ y.1 ∧ y.1 < (u.init.length : Int)) ∧ 0 ≤ y.2 ∧ y.2 < u.mod
def readsC (c : Cf) (t : Nat) (loc : Nat) : Int := (lastE (c.buf.getD t []) (loc : Int)).getD (c.mem.getD loc 0)
set_option maxRecDepth 100000 in
set_option maxHeartbeats 16000000 in
theorem reads_ok (v : Value) (c : Cf) (t loc : Nat) (w : World) (h : CfV w v c) (ht : t < c.buf.length) (hl : loc < c.mem.length) (hb : (c.buf.getD t []).length ≤ 1000) :
  Calls Try.prog 65 #[v, .int .i64 (t : Nat), .int .i64 (loc : Nat)] w fun r w' => r = .returned (.int .i64 (readsC c t loc)) ∧ Below w.heap.size w w' := by
 obtain ⟨pa, pc, ra, rc, ma, mc, ba, bc, rfl, -, -, h3, h4⟩ := h.var
 have S0 := Lib.hid (BxC.start w #[.slice pa c.pc.length pc, .slice ra c.regs.length rc, .slice ma c.mem.length mc, .slice ba c.buf.length bc] 52)
 obtain ⟨a4, c4, e4, h4⟩ := h4
 cases e4
 obtain ⟨b1, o1, u1, rfl, x1, hen⟩ := h4 t ht
 obtain ⟨a3, c3, e3, h3⟩ := h3
 cases e3
 obtain ⟨b2, o2, rfl, x2⟩ := h3 loc hl
 have HLA := Lib.hid (fun (w' : World) (hbl : Below w.heap.size w w') => last_ok u1 (c.buf.getD t []) (loc : Int) w' (hen.below hbl) (by omega))
 obtain ⟨ea, ec, rfl, -⟩ := hen
 have x1 := bkeep (balloc w (.cells #[.slice pa c.pc.length pc, .slice ra c.regs.length rc, .slice (some ⟨b2, o2, none⟩) c.mem.length mc, .slice (some ⟨b1, o1, none⟩) c.buf.length bc] 52)) x1
 have X2 := Lib.hid x2
 have z1 : (t : Int) < (c.buf.length : Int) := by omega
 have z2 : (loc : Int) < (c.mem.length : Int) := by omega
 unfold readsC
 clear h h3 h4 ht hl hb x2
 generalize c.mem.getD loc 0 = m0 at *
 generalize c.buf.getD t [] = bl at *
 generalize hL : lastE bl (loc : Int) = LA at *
 clear hL
 cases LA with
 | none =>
  simp only [Option.getD_none, Option.isSome_none] at HLA ⊢
  go_enter Try.func65, Try.ntmps65
  go_wp2_with (go_at_call 82; refine (HLA.out _ S0.out.below).mono ?_; rintro e1 w1 ⟨rfl, hb1⟩; have S1 := Lib.hid (S0.out.more hb1); clear hb1; have c2 := cell_of_block S1.out.blk 2 _ rfl; have x2 := bkeep S1.out.below X2.out)
  go_ret
  exact ⟨rfl, S1.out.below⟩
 | some y =>
  simp only [Option.getD_some, Option.isSome_some] at HLA ⊢
  go_enter Try.func65, Try.ntmps65
  go_wp2_with (go_at_call 82; refine (HLA.out _ S0.out.below).mono ?_; rintro e1 w1 ⟨rfl, hb1⟩; have S1 := Lib.hid (S0.out.more hb1); clear hb1)
  go_ret
  exact ⟨rfl, S1.out.below⟩
end Go.Proofs.Ytlhpjfnfemebdaa
namespace Go.Proofs.Ytlhpjfnfemebdaa
open Go.RowKit
structure Bx2 (w wr : World) (c : Array Value) (t : TypeId) (d : Array Value) (r : TypeId) : Prop where
 below : Below w.heap.size w wr
 blk1 : wr.heap[w.heap.size]? = some (.cells c t (0, 0))
 blk2 : wr.heap[w.heap.size + 1]? = some (.cells d r (0, 0))
theorem Bx2.start (w : World) (c : Array Value) (t : TypeId) (d : Array Value) (r : TypeId) : Bx2 w ((w.alloc (.cells c t)).alloc (.cells d r)) c t d r := by
 refine ⟨(balloc w _).trans ((balloc _ _).mono (balloc w _).size), bheap (balloc _ _) (heap_alloc_new w _), ?_⟩
 have := heap_alloc_new (w.alloc (.cells c t)) (.cells d r)
 simpa using this
theorem Bx2.more {w wr w' : World} {c d : Array Value} {t r : TypeId} (h : Bx2 w wr c t d r) (hb : Below wr.heap.size wr w') : Bx2 w w' c t d r := ⟨h.below.trans (hb.mono h.below.size), bheap hb h.blk1, bheap hb h.blk2⟩
set_option maxRecDepth 100000 in
set_option maxHeartbeats 16000000 in
theorem val10_ok (uv cv ev : Value) (u : PUn) (c : Cf) (t : Nat) (l : List Ed) (w : World) (hu : UnV w uv u) (hc : CfV w cv c) (he : EdgesAt w ev l) (ht : t < c.regs.length) (hl : l.length ≤ 1000000) (hm : 2 ≤ u.mod ∧ u.mod ≤ 16) (hr : allR (c.regs.getD t []) u.mod = true) (hrl : (c.regs.getD t []).length ≤ 1000000) :
  Calls Try.prog 66 #[uv, cv, .int .i64 (t : Nat), ev] w fun r w' => r = .returned (.int .i64 (valI u.mod (c.regs.getD t []) l)) ∧ Below w.heap.size w w' := by
 obtain ⟨ia, ic, ga, gc, ca, cc, rfl, -⟩ := hu.var
 obtain ⟨pa, pc, ra, rc, ma, mc, ba, bc, rfl, -, h2, -, -⟩ := hc.var
 obtain ⟨a2, c2, e2, h2⟩ := h2
 cases e2
 obtain ⟨b1, o1, u1, rfl, x1, hin⟩ := h2 t ht
 have S0 := Lib.hid (Bx2.start w #[.int .i64 u.mod, .slice ia u.init.length ic, .slice ga u.regs.length gc, .slice ca u.code.length cc] 25 #[.slice pa c.pc.length pc, .slice (some ⟨b1, o1, none⟩) c.regs.length rc, .slice ma c.mem.length mc, .slice ba c.buf.length bc] 52)
 have HV0 := Lib.hid (fun (w' : World) (hb : Below w.heap.size w w') => value_ok _ _ l (c.regs.getD t []) u.mod w' (he.below hb) (hin.below hb) hl hrl hm hr)
 obtain ⟨ea, ec, rfl, -⟩ := he
 obtain ⟨oa, oc, rfl, -⟩ := hin
 have z1 : (t : Int) < (c.regs.length : Int) := by omega
 clear hu hc h2 hr ht
 generalize c.regs.getD t [] = own at *
 generalize valI u.mod own l = VI at *
 generalize codeB (own.length : Int) l = CB at *
 generalize hw2 : (w.alloc (.cells #[.int .i64 u.mod, .slice ia u.init.length ic, .slice ga u.regs.length gc, .slice ca u.code.length cc] 25)).alloc (.cells #[.slice pa c.pc.length pc, .slice (some ⟨b1, o1, none⟩) c.regs.length rc, .slice ma c.mem.length mc, .slice ba c.buf.length bc] 52) = w2 at *
 have x1 := bkeep S0.out.below x1
 have g0 := cell_of_block S0.out.blk1 0 (.int .i64 u.mod) rfl
 have g1 := cell_of_block S0.out.blk2 1 (.slice (some ⟨b1, o1, none⟩) c.regs.length rc) rfl
 have HV := Lib.hid (fun (s : Sub w2) => HV0.out s.1 (S0.out.below.trans (s.2.mono S0.out.below.size)))
 have f0 : ∀ s : Sub w2, s.1.cell? ⟨w.heap.size, 0, none⟩ = some (.int .i64 u.mod) := fun s => s.cell g0
 have f1 : ∀ s : Sub w2, s.1.cell? ⟨w.heap.size + 1, 1, none⟩ = some (.slice (some ⟨b1, o1, none⟩) c.regs.length rc) := fun s => s.cell g1
 have f2 : ∀ s : Sub w2, s.1.cell? ⟨b1, o1 + t, none⟩ = some (.slice oa own.length oc) := fun s => s.cell x1
 go_enter Try.func66, Try.ntmps66
 go_wp2_with fail
 clear hw2
 refine region_below (by kernel_rfl) (by kernel_rfl) ?_
 repeat (go_big_quiet_step ((go_at_call 83; exact Calls.sub_of (HV.out _))))
 refine wpQuiet_nil ?_
 intro w4 hb4
 have S4 := Lib.hid (S0.out.more hb4)
 clear hb4
 go_wp2_with fail
 go_ret
 exact ⟨rfl, S4.out.below⟩
def flushC (c : Cf) (model : Int) (t : Nat) (loc : Int) : Bool := (popE (c.buf.getD t []) model loc).2.2
set_option maxRecDepth 100000 in
set_option maxHeartbeats 16000000 in
theorem flushes_ok (cv : Value) (c : Cf) (model loc : Int) (t : Nat) (w : World) (hc : CfV w cv c) (ht : t < c.buf.length) (hb : (c.buf.getD t []).length ≤ 1000) (hml : model = 2 ∧ loc = -1 ∨ model = 3) :
  Calls Try.prog 41 #[cv, .int .i64 model, .int .i64 (t : Nat), .int .i64 loc] w fun r w' => r = .returned (.bool (flushC c model t loc)) ∧ Below w.heap.size w w' := by
 obtain ⟨pa, pc, ra, rc, ma, mc, ba, bc, rfl, -, -, -, h4⟩ := hc.var
 obtain ⟨a2, c2, e2, h4⟩ := h4
 cases e2
 obtain ⟨b1, o1, u1, rfl, x1, hin⟩ := h4 t ht
 have S0 := Lib.hid (BxC.start w #[.slice pa c.pc.length pc, .slice ra c.regs.length rc, .slice ma c.mem.length mc, .slice (some ⟨b1, o1, none⟩) c.buf.length bc] 52)
 have HP : Hid (∀ w' : World, Below w.heap.size w w' → Calls Try.prog 67 #[u1, .int .i64 model, .int .i64 loc] w' fun r w2 => ∃ rv, r = .returned (.tuple #[rv, .agg #[.int .i64 (popE (c.buf.getD t []) model loc).2.1.1, .int .i64 (popE (c.buf.getD t []) model loc).2.1.2], .bool (popE (c.buf.getD t []) model loc).2.2]) ∧ OwnE w'.heap.size w2 rv (popE (c.buf.getD t []) model loc).1 ∧ Below w'.heap.size w' w2) := Lib.hid (fun w' hbl => by
  rcases hml with ⟨rfl, rfl⟩ | rfl
  ·exact pop2_ok u1 _ w' (hin.below hbl) hb
  ·exact pop3_ok u1 _ loc w' (hin.below hbl) hb)
 obtain ⟨ea, ec, rfl, -⟩ := hin
 have x1 := bkeep S0.out.below x1
 have z1 : (t : Int) < (c.buf.length : Int) := by omega
 unfold flushC
 clear hc h4 hb hml ht
 generalize c.buf.getD t [] = bl at *
 generalize popE bl model loc = PE at *
 obtain ⟨p1, ⟨p2, p3⟩, p4⟩ := PE
 simp only at HP ⊢
 go_enter Try.func41, Try.ntmps41
 go_wp2_with (go_at_call 67; refine (HP.out _ S0.out.below).mono ?_; rintro e1 w1 ⟨rv, rfl, ho, hb1⟩; obtain ⟨xa, xc, rfl⟩ := ownv ho; have S1 := Lib.hid (S0.out.more hb1); clear hb1 ho)
 go_ret
 exact ⟨rfl, S1.out.below.trans ((balloc w1 _).mono S1.out.below.size)⟩
end Go.Proofs.Ytlhpjfnfemebdaa
namespace Go.Proofs.Ytlhpjfnfemebdaa
open Go.RowKit
theorem infoI22 : (Try.prog.info? 22).map (fun i => (i.zero, i.size, i.bytes)) = some (some (.slice none 0 0), 1, 24) := by kernel_rfl
theorem infoE99 : (Try.prog.info? 99).map (fun i => (i.zero, i.size, i.bytes)) = some (some (.slice none 0 0), 1, 24) := by kernel_rfl
structure OwnRs (base : Nat) (w : World) (v : Value) (rows : List (List Int)) (vals : List Value) : Prop where
 len : vals.length = rows.length
 out : w.ownsRow base 22 1 v rows.length vals
 inn : ∀ j, j < rows.length → OwnI base w (vals.getD j undef) (rows.getD j [])
structure OwnBs (base : Nat) (w : World) (v : Value) (rows : List (List En)) (vals : List Value) : Prop where
 len : vals.length = rows.length
 out : w.ownsRow base 99 1 v rows.length vals
 inn : ∀ j, j < rows.length → OwnE base w (vals.getD j undef) (rows.getD j [])
def AP (a b : Value) : Prop := ∀ q, a.ownBlock = some q → b.ownBlock ≠ some q
theorem AP.symm {a b : Value} (h : AP a b) : AP b a := fun q h1 h2 => h q h2 h1
theorem AP.fresh {a b : Value} {N : Nat} (ha : ∀ q, a.ownBlock = some q → q < N) (hb : ∀ q, b.ownBlock = some q → N ≤ q) : AP a b := fun q h1 h2 => by have := ha q h1; have := hb q h2; omega
theorem ap_grow {V U : List Value} {v v' : Value} {N : Nat} (h : (V ++ v :: U).Pairwise AP) (hN : ∀ x ∈ V ++ U, ∀ q, x.ownBlock = some q → q < N) (hv : ∀ q, v'.ownBlock = some q → v.ownBlock = some q ∨ N ≤ q) : (V ++ v' :: U).Pairwise AP := by
 rw [List.pairwise_append, List.pairwise_cons] at h ⊢
 obtain ⟨h1, ⟨h2, h3⟩, h4⟩ := h
 refine ⟨h1, ⟨fun x hx q e1 e2 => ?_, h3⟩, fun x hx y hy => ?_⟩
 ·rcases hv q e1 with e | e
  ·exact h2 x hx q e e2
  ·have := hN x (List.mem_append_right _ hx) q e2; omega
 ·rcases List.mem_cons.1 hy with rfl | hy
  ·intro q e1 e2
   rcases hv q e2 with e | e
   ·exact h4 x hx v (List.mem_cons_self ..) q e1 e
   ·have := hN x (List.mem_append_left _ hx) q e1; omega
  ·exact h4 x hx y (List.mem_cons_of_mem _ hy)
theorem ap_new {V U : List Value} {v : Value} {N : Nat} (h : (V ++ U).Pairwise AP) (hN : ∀ x ∈ V ++ U, ∀ q, x.ownBlock = some q → q < N) (hv : ∀ q, v.ownBlock = some q → N ≤ q) : (V ++ v :: U).Pairwise AP := by
 rw [List.pairwise_append] at h ⊢
 rw [List.pairwise_cons]
 obtain ⟨h1, h3, h4⟩ := h
 refine ⟨h1, ⟨fun x hx => (AP.fresh (hN x (List.mem_append_right _ hx)) hv).symm, h3⟩, fun x hx y hy => ?_⟩
 rcases List.mem_cons.1 hy with rfl | hy
 ·exact AP.fresh (hN x (List.mem_append_left _ hx)) hv
 ·exact h4 x hx y hy
structure OwnC (base : Nat) (w : World) (vp vr vm vb : Value) (rv bv : List Value) (c : Cf) : Prop where
 pc : OwnI base w vp c.pc
 regs : OwnRs base w vr c.regs rv
 mem : OwnI base w vm c.mem
 buf : OwnBs base w vb c.buf bv
 apart : (vp :: vr :: vm :: vb :: (rv ++ bv)).Pairwise AP
theorem OwnRs.rows {base : Nat} {w : World} {v : Value} {rows : List (List Int)} {vals : List Value} (h : OwnRs base w v rows vals) : RowsAt w v rows := by
 obtain ⟨a, cp, rfl⟩ := ownv h.out
 refine ⟨a, cp, rfl, fun j hj => ?_⟩
 obtain ⟨g, cap, e, -, -⟩ := World.ownsRow.form h.out (by omega)
 cases e
 refine ⟨g, 0, vals.getD j undef, rfl, ?_, (h.inn j hj).ints⟩
 have := World.ownsRow.cellAt h.out j (by omega)
 have hl := h.len
 rw [Nat.zero_add, this, List.getD_eq_getElem?_getD, List.getElem?_eq_getElem (by omega)]
 rfl
theorem OwnBs.rows {base : Nat} {w : World} {v : Value} {rows : List (List En)} {vals : List Value} (h : OwnBs base w v rows vals) : BufsAt w v rows := by
 obtain ⟨a, cp, rfl⟩ := ownv h.out
 refine ⟨a, cp, rfl, fun j hj => ?_⟩
 obtain ⟨g, cap, e, -, -⟩ := World.ownsRow.form h.out (by omega)
 cases e
 refine ⟨g, 0, vals.getD j undef, rfl, ?_, (h.inn j hj).ens⟩
 have := World.ownsRow.cellAt h.out j (by omega)
 have hl := h.len
 rw [Nat.zero_add, this, List.getD_eq_getElem?_getD, List.getElem?_eq_getElem (by omega)]
 rfl
theorem OwnC.cf {base : Nat} {w : World} {vp vr vm vb : Value} {rv bv : List Value} {c : Cf} (h : OwnC base w vp vr vm vb rv bv c) : CfV w (.agg #[vp, vr, vm, vb]) c :=
 ⟨vp, vr, vm, vb, rfl, h.pc.ints, h.regs.rows, h.mem.ints, h.buf.rows⟩
theorem OwnC.more {base : Nat} {w w' : World} {vp vr vm vb : Value} {rv bv : List Value} {c : Cf} (h : OwnC base w vp vr vm vb rv bv c) (hb : Below w.heap.size w w') : OwnC base w' vp vr vm vb rv bv c :=
 ⟨h.pc.more hb, ⟨h.regs.len, ownm h.regs.out hb, fun j hj => (h.regs.inn j hj).more hb⟩, h.mem.more hb, ⟨h.buf.len, ownm h.buf.out hb, fun j hj => (h.buf.inn j hj).more hb⟩, h.apart⟩
structure CfL' (c : Cf) : Prop where
 pc : c.pc.length ≤ 1000
 mem : c.mem.length ≤ 1000
 regs : c.regs.length ≤ 1000
 buf : c.buf.length ≤ 1000
 rows : ∀ k, k < c.regs.length → (c.regs.getD k []).length ≤ 1000
 bufs : ∀ k, k < c.buf.length → (c.buf.getD k []).length ≤ 1000
structure CpM (w wr : World) (cc : Array Value) (d0 d1 d2 d3 : Value) : Prop where
 low : Below w.heap.size w wr
 bc : wr.heap[w.heap.size]? = some (.cells cc 52 (0, 0))
 br : wr.heap[w.heap.size + 1]? = some (.cells #[.slice none 0 0, .slice none 0 0, .slice none 0 0, .slice none 0 0] 52 (0, 0))
 bd : wr.heap[w.heap.size + 1 + 1]? = some (.cells #[d0, d1, d2, d3] 52 (0, 0))
section
variable {w wr w' : World} {cc : Array Value} {d0 d1 d2 d3 : Value}
theorem CpM.size (h : CpM w wr cc d0 d1 d2 d3) : w.heap.size + 3 ≤ wr.heap.size := by have := (Array.getElem?_eq_some_iff.1 h.bd).1; omega
theorem CpM.alloc (h : CpM w wr cc d0 d1 d2 d3) (o : Obj) : CpM w (wr.alloc o) cc d0 d1 d2 d3 :=
 ⟨h.low.trans ((balloc wr o).mono h.low.size), bheap (balloc wr o) h.bc, bheap (balloc wr o) h.br, bheap (balloc wr o) h.bd⟩
theorem CpM.grown (h : CpM w wr cc d0 d1 d2 d3) {r : Option Nat} (hg : wr.grownBy w' r) (hr : ∀ k, r = some k → w.heap.size + 3 ≤ k) : CpM w w' cc d0 d1 d2 d3 := by
 have hs := h.size
 refine ⟨h.low.grown hg h.low.size (fun k hk => by have := hr k hk; omega), ?_, ?_, ?_⟩
 ·rw [hg.block _ (by omega) (fun e => by have := hr _ e.symm; omega)]; exact h.bc
 ·rw [hg.block _ (by omega) (fun e => by have := hr _ e.symm; omega)]; exact h.br
 ·rw [hg.block _ (by omega) (fun e => by have := hr _ e.symm; omega)]; exact h.bd
theorem CpM.drew (h : CpM w wr cc d0 d1 d2 d3) : CpM w wr.drew cc d0 d1 d2 d3 := ⟨h.low.drew, h.bc, h.br, h.bd⟩
theorem heap_set_ne {w : World} {b i k : Nat} (h : k ≠ b) (v : Value) : (w.setCell ⟨b, i, none⟩ v).heap[k]? = w.heap[k]? := Below.heap_setCell w _ v k h
theorem CpM.put0 (h : CpM w wr cc d0 d1 d2 d3) (v : Value) : CpM w (wr.setCell ⟨w.heap.size + 1 + 1, 0, none⟩ v) cc v d1 d2 d3 :=
 ⟨h.low.setCell (p := ⟨w.heap.size + 1 + 1, 0, none⟩) (by show w.heap.size ≤ w.heap.size + 1 + 1; omega) v, by rw [heap_set_ne (by omega)]; exact h.bc, by rw [heap_set_ne (by omega)]; exact h.br, heap_setCell_block h.bd 0 v⟩
theorem CpM.put1 (h : CpM w wr cc d0 d1 d2 d3) (v : Value) : CpM w (wr.setCell ⟨w.heap.size + 1 + 1, 1, none⟩ v) cc d0 v d2 d3 :=
 ⟨h.low.setCell (p := ⟨w.heap.size + 1 + 1, 1, none⟩) (by show w.heap.size ≤ w.heap.size + 1 + 1; omega) v, by rw [heap_set_ne (by omega)]; exact h.bc, by rw [heap_set_ne (by omega)]; exact h.br, heap_setCell_block h.bd 1 v⟩
theorem CpM.put2 (h : CpM w wr cc d0 d1 d2 d3) (v : Value) : CpM w (wr.setCell ⟨w.heap.size + 1 + 1, 2, none⟩ v) cc d0 d1 v d3 :=
 ⟨h.low.setCell (p := ⟨w.heap.size + 1 + 1, 2, none⟩) (by show w.heap.size ≤ w.heap.size + 1 + 1; omega) v, by rw [heap_set_ne (by omega)]; exact h.bc, by rw [heap_set_ne (by omega)]; exact h.br, heap_setCell_block h.bd 2 v⟩
theorem CpM.put3 (h : CpM w wr cc d0 d1 d2 d3) (v : Value) : CpM w (wr.setCell ⟨w.heap.size + 1 + 1, 3, none⟩ v) cc d0 d1 d2 v :=
 ⟨h.low.setCell (p := ⟨w.heap.size + 1 + 1, 3, none⟩) (by show w.heap.size ≤ w.heap.size + 1 + 1; omega) v, by rw [heap_set_ne (by omega)]; exact h.bc, by rw [heap_set_ne (by omega)]; exact h.br, heap_setCell_block h.bd 3 v⟩
end
end Go.Proofs.Ytlhpjfnfemebdaa
