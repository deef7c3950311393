/-
  What is done: the program's.
-/
import Derived.Test.YtlhpjfnfemebdaaJCovS
namespace Go.Proofs.Ytlhpjfnfemebdaa
open Go.RowKit
set_option maxRecDepth 100000 in
set_option maxHeartbeats 64000000 in
theorem done30_ok (uv v : Value) (u : PUn) (s : Sp) (model : Int) (w : World) (hu : UnV w uv u) (h : SpV w v s) (hR : rightU u = true) (hok : buildOk (s.confs.length : Int) s.ed = true) (hk : ∀ j, j < s.confs.length → CfOk u 1000 (s.confs.getD j cf0)) :
  Calls Try.prog 9 #[uv, v, .int .i64 model] w fun r w' => ∃ rv, r = .returned rv ∧ BRowsAt w' rv (doneL (allL (buildG (s.confs.length : Int) s.ed)) s.confs u) ∧ Below w.heap.size w w' := by
 obtain ⟨i1, hi1, hy0, hy1, hy2⟩ := info_parts infoB39
 obtain ⟨hRt, -, hmem, -⟩ := sp_right hok
 obtain ⟨-, -, -, ⟨hT0, hT4⟩, hcr, hrw⟩ := rightU_iff.1 hR
 obtain ⟨vC, sa, sc, aa, ac, ta, tc, vP, vA, rfl, hC, hG, -, -⟩ := h.var
 obtain ⟨ca, cc, rfl, hC⟩ := hC
 have hlen : (allL (buildG (s.confs.length : Int) s.ed)).length ≤ 1000000 := by rw [allL_len hRt]; exact hG.sT
 have HAL := Lib.hid (fun (w' : World) (hb : Below w.heap.size w w') => all_new _ _ w' (hG.below hb) hRt)
 have hal : ∀ e ∈ allL (buildG (s.confs.length : Int) s.ed), 0 ≤ e.1 ∧ e.1 < (s.confs.length : Int) ∧ 0 ≤ e.2.1 := fun e he => by
  obtain ⟨h1, h2, -, -, h3⟩ := (buildOk_mem hok).2 e ((hmem e).1 he)
  exact ⟨h1, h2, h3⟩
 have HED := Lib.hid hal
 have HPC := Lib.hid (fun (j t : Nat) (hj : j < s.confs.length) (ht : t < u.code.length) => And.intro ((hk j hj).pc t (by rw [← hcr]; exact ht)) (show (s.confs.getD j cf0).pc.length = u.code.length from by rw [(hk j hj).npc, hcr]))
 have HRW := Lib.hid (fun (t : Nat) (ht : t < u.code.length) => (rowU_iff.1 (hrw t (by rw [← hcr]; exact ht))).2.1)
 rw [← hcr] at hT0 hT4
 obtain ⟨vi, vr, vc, rfl, hi, hr, hcd⟩ := hu
 obtain ⟨ia, ic, rfl, -⟩ := hi
 obtain ⟨ga, gc, rfl, -⟩ := hr
 obtain ⟨ka, kc, rfl, hcd⟩ := hcd
 have HCD := Lib.hid hcd
 have HCC := Lib.hid hC
 unfold doneL
 clear h hG hok hmem hRt hal hk hcr hrw hcd hC hR
 generalize allL (buildG (s.confs.length : Int) s.ed) = l at *
 generalize (buildG (s.confs.length : Int) s.ed).S.length = nS at *
 generalize (buildG (s.confs.length : Int) s.ed).A.length = nA at *
 generalize (buildG (s.confs.length : Int) s.ed).T.length = nT at *
 generalize s.confs = cs at *
 obtain ⟨n, hnn⟩ : ∃ n, n = cs.length := ⟨_, rfl⟩
 rw [← hnn] at HED HPC HCC ⊢
 clear hnn
 obtain ⟨LN, hLN⟩ : ∃ LN : Nat → Nat, LN = fun t => (u.code.getD t []).length := ⟨_, rfl⟩
 have HLN : Hid (∀ t, t < u.code.length → LN t ≤ 1000) := Lib.hid (fun t ht => by rw [hLN]; exact (HRW.out t ht).2)
 have HCL := Lib.hid (fun (j : Nat) (hj : j < u.code.length) => by
  obtain ⟨b, o, x, e, h1, a, c, e2, -⟩ := HCD.out j hj
  exact (show ∃ b o a c, ka = some ⟨b, o, none⟩ ∧ w.cell? ⟨b, o + j, none⟩ = some (.slice a (LN j) c) from ⟨b, o, a, c, e, by rw [h1, e2, hLN]⟩))
 have HPC2 : Hid (∀ (j t : Nat), j < n → t < u.code.length → (0 ≤ (cs.getD j cf0).pc.getD t 0 ∧ (cs.getD j cf0).pc.getD t 0 < (LN t : Int)) ∧ (cs.getD j cf0).pc.length = u.code.length) := Lib.hid (by rw [hLN]; exact HPC.out)
 have HRES : Hid (tab u.code.length (fun t => doneRow l cs t (u.code.getD t []).length) = tab u.code.length (fun t => doneRow (l.take l.length) cs t (LN t))) := Lib.hid (by rw [hLN, List.take_length])
 rw [HRES.out]
 clear HPC HRW hLN HCD HRES
 generalize u.code.length = T at *
 have S0 := Lib.hid (Bx2.start w (#[.int .i64 u.mod, .slice ia u.init.length ic, .slice ga u.regs.length gc, .slice ka T kc]) 25 #[.slice ca n cc, .slice sa nS sc, .slice aa nA ac, .slice ta nT tc, vP, vA] 32)
 generalize hw2 : (w.alloc (.cells #[.int .i64 u.mod, .slice ia u.init.length ic, .slice ga u.regs.length gc, .slice ka T kc] 25)).alloc (.cells #[.slice ca n cc, .slice sa nS sc, .slice aa nA ac, .slice ta nT tc, vP, vA] 32) = w2 at *
 have k3 := cell_of_block S0.out.blk1 3 (.slice ka T kc) rfl
 go_enter Try.func9, Try.ntmps9
 go_wp2_with fail
 clear hw2 k3
 go_loopg [7, 15] T (fun fu ov c wr => ∃ (k : Nat) (bs : Nat → Nat), k + fu = T ∧ c = .int .i64 k ∧ Hid (DnM w2.heap.size wr ov k bs (fun t => doneRow [] cs t (LN t))) ∧ Hid (Below w2.heap.size w2 wr))
 case atStart => exact ⟨0, fun _ => 0, by omega, rfl, Lib.hid (DnM.nil _ _ _ _), Lib.hid (Below.refl _ _)⟩
 case round =>
  obtain ⟨k, bs, hk, rfl, M, HB⟩ := hrel
  obtain ⟨oa, oc, rfl⟩ := ownv M.out.own
  have S := Lib.hid (S0.out.more HB.out)
  by_cases hlt : k < T
  ·have z1 : (k : Int) < (T : Int) := by omega
   obtain ⟨b1, o1, ra, rc, rfl, x0⟩ := HCL.out k hlt
   have x1 := bkeep S.out.below x0
   have hln := HLN.out k hlt
   have HRL : Hid ((doneRow [] cs k (LN k)).length = LN k) := Lib.hid (doneRow_len _ _ _ _)
   have HRZ : Hid (doneRow [] cs k (LN k) = List.replicate (LN k) false) := Lib.hid (doneRow_zero cs k (LN k)).symm
   clear x0
   obtain ⟨m, hm⟩ : ∃ m, LN k = m := ⟨_, rfl⟩
   have HMM := Lib.hid hm
   rw [hm] at x1 hln
   clear hm
   go_wp2_with (first
    | (at_builtin; refine wpList_append_lies (w4.alloc (.cells #[.slice (some ⟨wr.heap.size, 0, none⟩) m m] 39)) rfl (.tmp 19) (.tmp 23) 36 rfl w2.heap.size 39 i1 (.slice none 0 0) 1 24 Try.underlying36 hi1 hy0 hy1 hy2 rfl (by decide) (.slice oa k oc) k _ rfl (World.ownsRow.alloc (ownm M.out.own HB4.out) _) ⟨w4.heap.size, 0, none⟩ 1 1 [.slice (some ⟨wr.heap.size, 0, none⟩) m m] rfl rfl (World.news_of_block (heap_alloc_new _ _)) (by simp [Value.oneCell']) (by omega) (by unfold maxLen; omega) (by omega) (by have := (HB.out.trans (HB4.out.mono HB.out.size)).size; simp only [alloc_size]; omega) (w4.heap.size + 1) (by simp) ?_; intro g7 cap7 w7 hown7 hgr7 hor7 hlt7; have M7 : Hid (DnM w2.heap.size w7 (.slice (some ⟨g7, 0, none⟩) (k + 1) cap7) (k + 1) (fun t => if t = k then wr.heap.size else bs t) (fun t => doneRow [] cs t (LN t))) := Lib.hid (M.out.push (b := wr.heap.size) HB.out.size (HB4.out.trans ((balloc w4 _).mono HB4.out.size)) (bheap (balloc w4 _) H4.out) (Nat.le_refl _) hgr7 (by rw [HRL.out, HMM.out]; exact hown7)); have HB7 := Lib.hid (((HB.out.trans (HB4.out.mono HB.out.size)).alloc (HB.out.trans (HB4.out.mono HB.out.size)).size (.cells #[.slice (some ⟨wr.heap.size, 0, none⟩) m m] 39)).grown hgr7 (by have := (HB.out.trans (HB4.out.mono HB.out.size)).size; simp only [alloc_size]; omega) (fun q e => (World.ownsRow.lt M.out.own q e).1)); clear hown7 hgr7 hor7 hlt7 M HB)
    | (at_make; refine wpList_make_one _ rfl (.tmp 21) (.tmp 21) 39 rfl 4 (.bool false) rfl 1 Try.underlying39 Try.info4 .i64 .i64 (m : Nat) (m : Nat) m rfl rfl rfl rfl (by omega) (by unfold maxLen; omega) ?_; intro w4 hh4 hb4 hlt4; have H4 : Hid (w4.heap[wr.heap.size]? = some (.cells (bools (doneRow [] cs k (LN k))) 4 (0, 0))) := Lib.hid (by rw [HRZ.out, HMM.out, bools_replicate]; exact hh4); have HB4 := Lib.hid hb4; clear hh4 hb4 hlt4))
   go_roundg (T - (k + 1))
   case measure => omega
   case rel => exact ⟨k + 1, _, by omega, by simp, M7, HB7⟩
  ·obtain rfl : k = T := by omega
   have z1 : ¬ (k : Int) < (k : Int) := by omega
   have c1 := cell_of_block S.out.blk2 1 (.slice sa nS sc) rfl
   have c2 := cell_of_block S.out.blk2 2 (.slice aa nA ac) rfl
   have c3 := cell_of_block S.out.blk2 3 (.slice ta nT tc) rfl
   obtain ⟨g, cap, e0, hg1, hg2⟩ := World.ownsRow.form M.out.own (by omega)
   simp only [Value.slice.injEq, true_and] at e0
   obtain ⟨rfl, rfl⟩ := e0
   go_wp2_with (go_at_call 29; refine (HAL.out _ S.out.below).mono ?_; rintro e1 w4 ⟨ev, rfl, hE, hb4⟩; obtain ⟨ea, ec, rfl⟩ := ownv hE; have S4 := Lib.hid (S.out.more hb4); have M4 := Lib.hid (M.out.more hb4); have ES4 := Lib.hid (eds_st (F := fun q => ∃ t, t < k ∧ q = bs t) hE (fun q ⟨t, ht, e⟩ => by rw [e]; exact (Array.getElem?_eq_some_iff.1 (M.out.blk t ht).1).1)); have HB4 := Lib.hid (HB.out.trans (hb4.mono HB.out.size)); clear hE hb4 S M HB c1 c2 c3)
   go_loopg [30] l.length (fun fu c wr => ∃ (q : Nat), q + fu = l.length ∧ c = .int .i64 q ∧ Hid (St (fun q => ∃ t, t < k ∧ q = bs t) (fun w => EdgesAt w (.slice ea l.length ec) l) wr) ∧ Hid (DnM w2.heap.size wr (.slice (some ⟨g, 0, none⟩) k oc) k bs (fun t => doneRow (l.take q) cs t (LN t))) ∧ Hid (Below w2.heap.size w2 wr))
   case atStart => exact ⟨0, by omega, rfl, ES4, M4, HB4⟩
   case round =>
    clear ES4 M4 HB4 S4
    obtain ⟨q, hq, rfl, ES, M, HB⟩ := hrel
    have S := Lib.hid (S0.out.more HB.out)
    by_cases hql : q < l.length
    ·obtain ⟨ea', ec', e0, hec⟩ := ES.out.now
     cases e0
     obtain ⟨b2, o2, rfl, y1, y2, y3⟩ := hec q hql
     have z2 : (q : Int) < (l.length : Int) := by omega
     obtain ⟨hf0, hf1, ht0⟩ := HED.out (l.getD q (0, 0, 0)) (by simp [List.getD, hql])
     obtain ⟨f, hf⟩ : ∃ f : Nat, (l.getD q (0, 0, 0)).1 = (f : Int) := ⟨(l.getD q (0, 0, 0)).1.toNat, by omega⟩
     obtain ⟨t, ht⟩ : ∃ t : Nat, (l.getD q (0, 0, 0)).2.1 = (t : Int) := ⟨(l.getD q (0, 0, 0)).2.1.toNat, by omega⟩
     have hfn : f < n := by omega
     have HHIT := Lib.hid (fun (p : Nat) (h : (cs.getD f cf0).pc.getD t 0 = (p : Int)) => doneRow_hit (cs := cs) (n := LN t) hql ht (by rw [hf, Int.toNat_natCast]; exact h))
     have HMISS := Lib.hid (fun (t' : Nat) (h : t' ≠ t) => doneRow_miss (cs := cs) (n := LN t') (t := t') hql (by rw [ht]; omega))
     rw [hf] at y1
     rw [ht] at y2
     clear hec hf0 hf1 ht0 hf ht
     generalize (l.getD q (0, 0, 0)).2.2 = z at *
     have MW := Lib.hid (M.out.more (balloc wr (.cells #[.int .i64 f, .int .i64 t, .int .i64 z] 65)))
     have EW := Lib.hid (ES.out.more (balloc wr (.cells #[.int .i64 f, .int .i64 t, .int .i64 z] 65)))
     have HBW := Lib.hid (HB.out.trans ((balloc wr (.cells #[.int .i64 f, .int .i64 t, .int .i64 z] 65)).mono HB.out.size))
     have SW := Lib.hid (S.out.more (balloc wr (.cells #[.int .i64 f, .int .i64 t, .int .i64 z] 65)))
     clear M ES HB S
     by_cases htk : t < k
     ·have z3 : (t : Int) < (k : Int) := by omega
      obtain ⟨⟨hp0, hp1⟩, hpl⟩ := HPC2.out f t hfn htk
      obtain ⟨p, hp⟩ : ∃ p : Nat, (cs.getD f cf0).pc.getD t 0 = (p : Int) := ⟨((cs.getD f cf0).pc.getD t 0).toNat, by omega⟩
      have hpn : p < LN t := by omega
      have H1 := Lib.hid (HHIT.out p hp)
      have MN := Lib.hid (MW.out.set (rows' := fun x => doneRow (l.take (q + 1)) cs x (LN x)) htk p H1.out (fun x _ hx => (HMISS.out x hx).symm))
      have hrl : (doneRow (l.take q) cs t (LN t)).length = LN t := doneRow_len _ _ _ _
      have x0 : (wr.alloc (.cells #[.int .i64 f, .int .i64 t, .int .i64 z] 65)).cell? ⟨g, t, none⟩ = some (.slice (some ⟨bs t, 0, none⟩) (LN t) (LN t)) := by
       have := MW.out.cell htk
       simp only [doneRow_len] at this
       exact this
      have xb := cell_of_block (MW.out.blk t htk).1 p _ (bools_get (doneRow (l.take q) cs t (LN t)) p (by rw [hrl]; exact hpn))
      have xf := free_of_block (MW.out.blk t htk).1 p
      obtain ⟨bc, o3, vp, vr, vm, vb, rfl, v0, -, -, -, hcf⟩ := HCC.out f hfn
      obtain ⟨vp', vr', vm', vb', e0, hpi, -⟩ := hcf
      simp only [Value.agg.injEq, Array.mk.injEq, List.cons.injEq, and_true] at e0
      obtain ⟨rfl, rfl, rfl, rfl⟩ := e0
      obtain ⟨pa, pcap, rfl, hpc⟩ := hpi
      obtain ⟨b4, o4, rfl, w0⟩ := hpc t (by rw [hpl]; exact htk)
      rw [hp] at w0
      have v1 := bkeep SW.out.below v0
      have w1 := bkeep SW.out.below w0
      have d0 := cell_of_block SW.out.blk2 0 (.slice (some ⟨bc, o3, none⟩) n cc) rfl
      have z4 : (f : Int) < (n : Int) := by omega
      have z5 : (t : Int) < ((cs.getD f cf0).pc.length : Int) := by rw [hpl]; omega
      have z6 : (p : Int) < (LN t : Int) := by omega
      have KF : Hid (Frm (fun q => ∃ t, t < k ∧ q = bs t) (wr.alloc (.cells #[.int .i64 f, .int .i64 t, .int .i64 z] 65)) ((wr.alloc (.cells #[.int .i64 f, .int .i64 t, .int .i64 z] 65)).setCell ⟨bs t, p, none⟩ (.bool true))) := Lib.hid ((Frm.refl (fun q => ∃ t, t < k ∧ q = bs t) _).setCell (p := ⟨bs t, p, none⟩) (fun _ => ⟨t, htk, rfl⟩) (.bool true))
      have EN := Lib.hid ((EW.out.step (F' := fun q => ∃ t, t < k ∧ q = bs t) KF.out (fun q hq => .inl hq)).more (show Below ((wr.alloc (.cells #[.int .i64 f, .int .i64 t, .int .i64 z] 65)).setCell ⟨bs t, p, none⟩ (.bool true)).heap.size ((wr.alloc (.cells #[.int .i64 f, .int .i64 t, .int .i64 z] 65)).setCell ⟨bs t, p, none⟩ (.bool true)) ((wr.alloc (.cells #[.int .i64 f, .int .i64 t, .int .i64 z] 65)).setCell ⟨bs t, p, none⟩ (.bool true)).drew from (Below.refl _ _).drew))
      have MN2 := Lib.hid (MN.out.more (show Below ((wr.alloc (.cells #[.int .i64 f, .int .i64 t, .int .i64 z] 65)).setCell ⟨bs t, p, none⟩ (.bool true)).heap.size ((wr.alloc (.cells #[.int .i64 f, .int .i64 t, .int .i64 z] 65)).setCell ⟨bs t, p, none⟩ (.bool true)) ((wr.alloc (.cells #[.int .i64 f, .int .i64 t, .int .i64 z] 65)).setCell ⟨bs t, p, none⟩ (.bool true)).drew from (Below.refl _ _).drew))
      have HBN := Lib.hid ((HBW.out.setCell (p := ⟨bs t, p, none⟩) (MW.out.blk t htk).2 (.bool true)).drew)
      clear HHIT HMISS hp hp0 hp1 H1 hrl hpc v0 w0 MN KF EW MW HBW hpl
      generalize (doneRow (l.take q) cs t (LN t)).getD p false = bx at *
      generalize (cs.getD f cf0).pc.length = pl at *
      generalize LN t = lt at *
      go_wp2_with fail
      refine region_tail 16 (by kernel_rfl) (by kernel_rfl) ?_
      simp only [List.take_succ_cons, List.take_zero, List.drop_succ_cons, List.drop_zero]
      repeat still_step
      refine wpStill_nil ?_
      go_wp2_with fail
      go_roundg (l.length - (q + 1))
      case measure => omega
      case rel => exact ⟨q + 1, by omega, by simp, EN, MN2, HBN⟩
     ·have z3 : ¬ (t : Int) < (k : Int) := by omega
      have MN : Hid (DnM w2.heap.size (wr.alloc (.cells #[.int .i64 f, .int .i64 t, .int .i64 z] 65)) (.slice (some ⟨g, 0, none⟩) k oc) k bs (fun t => doneRow (l.take (q + 1)) cs t (LN t))) := Lib.hid (by
       have h1 : ∀ t', t' < k → doneRow (l.take (q + 1)) cs t' (LN t') = doneRow (l.take q) cs t' (LN t') := fun t' ht' => HMISS.out t' (by omega)
       have h2 := MW.out
       refine ⟨?_, fun t' ht' => ⟨?_, (h2.blk t' ht').2⟩, h2.inj⟩
       ·have := h2.own
        rwa [tab_congrc k (fun t => Value.slice (some ⟨bs t, 0, none⟩) (doneRow (l.take q) cs t (LN t)).length (doneRow (l.take q) cs t (LN t)).length) (fun t => .slice (some ⟨bs t, 0, none⟩) (doneRow (l.take (q + 1)) cs t (LN t)).length (doneRow (l.take (q + 1)) cs t (LN t)).length) (fun j hj => by show Value.slice _ _ _ = Value.slice _ _ _; rw [h1 j hj])] at this
       ·show _ = some (Obj.cells (bools (doneRow (l.take (q + 1)) cs t' (LN t'))) 4 (0, 0))
        rw [h1 t' ht']
        exact (h2.blk t' ht').1)
      clear HHIT HMISS MW
      go_wp2_with fail
      go_roundg (l.length - (q + 1))
      case measure => omega
      case rel => exact ⟨q + 1, by omega, by simp, EW, MN, HBW⟩
    ·obtain rfl : q = l.length := by omega
     have z2 : ¬ (l.length : Int) < (l.length : Int) := by omega
     go_wp2_with fail
     go_ret
     exact ⟨_, rfl, by have := M.out.rows; simp only [List.take_length] at this; exact this, S.out.below⟩
end Go.Proofs.Ytlhpjfnfemebdaa
