/-
  What is done: the document's. How far configurations are: the document's rounds. How many are how far: the document's. What the value of an operation of a drawn region is.
-/
import Derived.Test.YtlhpjfnfemebdaaJCovS
import Derived.Test.YtlhpjfnfemebdaaJCovP
import Derived.Test.YtlhpjfnfemebdaaJMachT
import Derived.Test.YtlhpjfnfemebdaaJCovD
import Derived.Deep.AppendLies
import Derived.Deep.OwnRows
import Derived.Deep.RegionLaw
import Derived.Laws.CopyOwn
import Derived.Shelf.Abstract
import Derived.Test.YtlhpjfnfemebdaaRows
import Derived.Test.YtlhpjfnfemebdaaJBase
namespace Go.Proofs.Ytlhpjfnfemebdaa
open Go.RowKit
def doneK (l : List Ed) (cs : List Cf) (LN : Nat → Nat) (k : Nat) : List (List Bool) := tab k (fun t => doneRow l cs t (LN t))
set_option maxRecDepth 100000 in
set_option maxHeartbeats 64000000 in
theorem rdone_ok (uv v : Value) (u : PUn) (s : Sp) (model : Int) (w : World) (hu : UnV w uv u) (h : SpV w v s) (hR : rightU u = true) (hok : buildOk (s.confs.length : Int) s.ed = true) (hk : ∀ j, j < s.confs.length → CfOk u 1000 (s.confs.getD j cf0)) :
  Calls Try.prog 10 #[uv, v, .int .i64 model] w fun r w' => ∃ rv, r = .returned rv ∧ BRowsAt w' rv (doneL (allL (buildG (s.confs.length : Int) s.ed)) s.confs u) ∧ Below w.heap.size w w' := by
 obtain ⟨i1, hi1, hy0, hy1, hy2⟩ := info_parts infoB39
 obtain ⟨hRt, -, hmem, -⟩ := sp_right hok
 obtain ⟨-, -, -, ⟨hT0, hT4⟩, hcr, hrw⟩ := rightU_iff.1 hR
 obtain ⟨vC, sa, sc, aa, ac, ta, tc, vP, vA, rfl, hC, hG, -, -⟩ := h.var
 obtain ⟨ca, cc, rfl, hC⟩ := hC
 have hlen : (allL (buildG (s.confs.length : Int) s.ed)).length ≤ 1000000 := by rw [allL_len hRt]; exact hG.sT
 have HAL := Lib.hid (fun (w' : World) (hb : Below w.heap.size w w') => rall_own _ _ w' (hG.below hb))
 have hal : ∀ e ∈ allL (buildG (s.confs.length : Int) s.ed), 0 ≤ e.1 ∧ e.1 < (s.confs.length : Int) ∧ 0 ≤ e.2.1 := fun e he => by
  obtain ⟨h1, h2, -, -, h3⟩ := (buildOk_mem hok).2 e ((hmem e).1 he)
  exact ⟨h1, h2, h3⟩
 have HED := Lib.hid hal
 have HPC := Lib.hid (fun (j t : Nat) (hj : j < s.confs.length) (ht : t < u.code.length) => And.intro ((hk j hj).pc t (by rw [← hcr]; exact ht)) (show (s.confs.getD j cf0).pc.length = u.code.length from by rw [(hk j hj).npc, hcr]))
 have HRW := Lib.hid (fun (t : Nat) (ht : t < u.code.length) => (rowU_iff.1 (hrw t (by rw [← hcr]; exact ht))).2.1)
 rw [← hcr] at hT0 hT4
 obtain ⟨vi, vr, vc, rfl, hi, hr, hcd⟩ := hu
 obtain ⟨ia, ic, rfl, -⟩ := hi
 obtain ⟨ga, gc, rfl, -⟩ := hr
 obtain ⟨ka, kc, rfl, hcd⟩ := hcd
 have HCD := Lib.hid hcd
 have HCC := Lib.hid hC
 unfold doneL
 clear h hG hok hmem hRt hal hk hcr hrw hcd hC hR
 generalize allL (buildG (s.confs.length : Int) s.ed) = l at *
 generalize (buildG (s.confs.length : Int) s.ed).S.length = nS at *
 generalize (buildG (s.confs.length : Int) s.ed).A.length = nA at *
 generalize (buildG (s.confs.length : Int) s.ed).T.length = nT at *
 generalize s.confs = cs at *
 obtain ⟨n, hnn⟩ : ∃ n, n = cs.length := ⟨_, rfl⟩
 rw [← hnn] at HED HPC HCC ⊢
 clear hnn
 obtain ⟨LN, hLN⟩ : ∃ LN : Nat → Nat, LN = fun t => (u.code.getD t []).length := ⟨_, rfl⟩
 have HLN : Hid (∀ t, t < u.code.length → LN t ≤ 1000) := Lib.hid (fun t ht => by rw [hLN]; exact (HRW.out t ht).2)
 have HCL := Lib.hid (fun (j : Nat) (hj : j < u.code.length) => by
  obtain ⟨b, o, x, e, h1, a, c, e2, -⟩ := HCD.out j hj
  exact (show ∃ b o a c, ka = some ⟨b, o, none⟩ ∧ w.cell? ⟨b, o + j, none⟩ = some (.slice a (LN j) c) from ⟨b, o, a, c, e, by rw [h1, e2, hLN]⟩))
 have HPC2 : Hid (∀ (j t : Nat), j < n → t < u.code.length → (0 ≤ (cs.getD j cf0).pc.getD t 0 ∧ (cs.getD j cf0).pc.getD t 0 < (LN t : Int)) ∧ (cs.getD j cf0).pc.length = u.code.length) := Lib.hid (by rw [hLN]; exact HPC.out)
 have HRES : Hid (tab u.code.length (fun t => doneRow l cs t (u.code.getD t []).length) = doneK l cs LN u.code.length) := Lib.hid (by rw [hLN]; rfl)
 rw [HRES.out]
 clear HPC HRW hLN HCD HRES
 generalize u.code.length = T at *
 have S0 := Lib.hid (Bx2.start w #[.int .i64 u.mod, .slice ia u.init.length ic, .slice ga u.regs.length gc, .slice ka T kc] 25 #[.slice ca n cc, .slice sa nS sc, .slice aa nA ac, .slice ta nT tc, vP, vA] 32)
 generalize hw2 : (w.alloc (.cells #[.int .i64 u.mod, .slice ia u.init.length ic, .slice ga u.regs.length gc, .slice ka T kc] 25)).alloc (.cells #[.slice ca n cc, .slice sa nS sc, .slice aa nA ac, .slice ta nT tc, vP, vA] 32) = w2 at *
 have c1 := cell_of_block S0.out.blk2 1 (.slice sa nS sc) rfl
 have c2 := cell_of_block S0.out.blk2 2 (.slice aa nA ac) rfl
 have c3 := cell_of_block S0.out.blk2 3 (.slice ta nT tc) rfl
 go_enter Try.func10, Try.ntmps10
 go_wp2_with (go_at_call 30; refine (HAL.out _ S0.out.below).mono ?_; rintro e1 w3 ⟨ev, rfl, hE, hb3⟩; obtain ⟨ea, ec, rfl⟩ := ownv hE; have S3 := Lib.hid (S0.out.more hb3); have E3 := Lib.hid hE; clear hE hb3 c1 c2 c3)
 clear hw2
 have EA : Hid (EdgesAt w3 (.slice ea l.length ec) l) := Lib.hid (ownsRow_edges E3.out)
 clear E3 S0
 go_loopg [7, 9] T (fun fu ov c wr => ∃ (k : Nat) (vals : List Value), k + fu = T ∧ c = .int .i64 k ∧ Hid (BRM w3.heap.size (fun q => ov.ownBlock = some q) wr ov vals (doneK l cs LN k)) ∧ Hid (Below w3.heap.size w3 wr))
 case atStart => exact ⟨0, [], by omega, rfl, Lib.hid (BRM.nil _ _ _), Lib.hid (Below.refl _ _)⟩
 case round =>
  obtain ⟨k, vals, hk, rfl, M, HB⟩ := hrel
  obtain ⟨oa, oc, hov⟩ := ownv M.out.out
  rw [show (doneK l cs LN k).length = k from tab_len _ _] at hov
  subst hov
  have S := Lib.hid (S3.out.more HB.out)
  have k3 := cell_of_block S.out.blk1 3 (.slice ka T kc) rfl
  by_cases hlt : k < T
  ·have z1 : (k : Int) < (T : Int) := by omega
   obtain ⟨b1, o1, ra, rc, rfl, x0⟩ := HCL.out k hlt
   have x1 := bkeep S.out.below x0
   have hln := HLN.out k hlt
   have HRL : Hid (∀ q, (doneRow (l.take q) cs k (LN k)).length = LN k) := Lib.hid (fun q => doneRow_len _ _ _ _)
   have HRZ : Hid (doneRow (l.take 0) cs k (LN k) = List.replicate (LN k) false) := Lib.hid (doneRow_zero cs k (LN k)).symm
   have HKN : Hid (doneK l cs LN (k + 1) = doneK l cs LN k ++ [doneRow l cs k (LN k)]) := Lib.hid (by unfold doneK; rw [tab_snoc])
   have HPK := Lib.hid (fun j hj => HPC2.out j k hj hlt)
   clear x0
   obtain ⟨m, hm⟩ : ∃ m, LN k = m := ⟨_, rfl⟩
   rw [hm] at x1 hln HRL HRZ HKN HPK
   clear hm
   go_wp2_with (at_make; refine wpList_make_one _ rfl (.tmp 27) (.tmp 27) 39 rfl 4 (.bool false) rfl 1 Try.underlying39 Try.info4 .i64 .i64 (m : Nat) (m : Nat) m rfl rfl rfl rfl (by omega) (by unfold maxLen; omega) ?_; intro w4 hh4 hb4 hlt4; have H4 : Hid (w4.heap[wr.heap.size]? = some (.cells (bools (doneRow (l.take 0) cs k m)) 4 (0, 0))) := Lib.hid (by rw [HRZ.out, bools_replicate]; exact hh4); have HB4 := Lib.hid hb4; clear hh4 hb4 hlt4)
   have M4 : Hid (BRM w3.heap.size (fun q => (Value.slice oa k oc).ownBlock = some q ∨ (Value.slice (some ⟨wr.heap.size, 0, none⟩) m m).ownBlock = some q) w4 (.slice oa k oc) vals (doneK l cs LN k)) := Lib.hid (M.out.step (bfrm HB4.out _) (ownm M.out.out HB4.out) (fun q hq => by rcases hq with e | e; (exact .inl e); (right; have : wr.heap.size = q := (by simpa [Value.ownBlock] using e); omega)))
   have HBW4 : Hid (Below w3.heap.size w3 w4) := Lib.hid (HB.out.trans (HB4.out.mono HB.out.size))
   have HOB : Hid (∀ q, (Value.slice oa k oc).ownBlock = some q → q < wr.heap.size) := Lib.hid (fun q e => (World.ownsRow.lt M.out.out q e).2)
   have HWS := Lib.hid HB.out.size
   obtain ⟨B, hB⟩ : ∃ B, B = wr.heap.size := ⟨_, rfl⟩
   rw [← hB] at H4 M4 HOB HWS ⊢
   clear M HB S k3 x1 HB4 hB
   go_loopg [11] l.length (fun fu c wr => ∃ (q : Nat), q + fu = l.length ∧ c = .int .i64 q ∧ Hid (wr.heap[B]? = some (.cells (bools (doneRow (l.take q) cs k m)) 4 (0, 0))) ∧ Hid (BRM w3.heap.size (fun q => (Value.slice oa k oc).ownBlock = some q ∨ (Value.slice (some ⟨B, 0, none⟩) m m).ownBlock = some q) wr (.slice oa k oc) vals (doneK l cs LN k)) ∧ Hid (Below w3.heap.size w3 wr))
   case atStart => exact ⟨0, by omega, rfl, H4, M4, HBW4⟩
   case round =>
    clear H4 M4 HBW4
    obtain ⟨q, hq, rfl, H, M, HB⟩ := hrel
    have S := Lib.hid (S3.out.more HB.out)
    by_cases hql : q < l.length
    ·obtain ⟨ea', ec', e0, hec⟩ := EA.out.below HB.out
     cases e0
     obtain ⟨b2, o2, rfl, y1, y2, y3⟩ := hec q hql
     have z2 : (q : Int) < (l.length : Int) := by omega
     obtain ⟨hf0, hf1, ht0⟩ := HED.out (l.getD q (0, 0, 0)) (by simp [List.getD, hql])
     obtain ⟨f, hf⟩ : ∃ f : Nat, (l.getD q (0, 0, 0)).1 = (f : Int) := ⟨(l.getD q (0, 0, 0)).1.toNat, by omega⟩
     obtain ⟨t, ht⟩ : ∃ t : Nat, (l.getD q (0, 0, 0)).2.1 = (t : Int) := ⟨(l.getD q (0, 0, 0)).2.1.toNat, by omega⟩
     have hfn : f < n := by omega
     have HHIT := Lib.hid (fun (p : Nat) (htk : t = k) (h : (cs.getD f cf0).pc.getD k 0 = (p : Int)) => doneRow_hit (cs := cs) (n := m) (t := k) hql (by rw [ht, htk]) (by rw [hf, Int.toNat_natCast]; exact h))
     have HMISS := Lib.hid (fun (h : k ≠ t) => doneRow_miss (cs := cs) (n := m) (t := k) hql (by rw [ht]; omega))
     rw [hf] at y1
     rw [ht] at y2
     clear hec hf0 hf1 ht0 hf ht y3
     by_cases htk : t = k
     ·obtain ⟨⟨hp0, hp1⟩, hpl⟩ := HPK.out f hfn
      obtain ⟨p, hp⟩ : ∃ p : Nat, (cs.getD f cf0).pc.getD k 0 = (p : Int) := ⟨((cs.getD f cf0).pc.getD k 0).toNat, by omega⟩
      have hpn : p < m := by omega
      have H1 := Lib.hid (HHIT.out p htk hp)
      have xb := cell_of_block H.out p _ (bools_get (doneRow (l.take q) cs k m) p (by rw [HRL.out]; exact hpn))
      have xf := free_of_block H.out p
      obtain ⟨bc, o3, vp, vr, vm, vb, rfl, v0, -, -, -, hcf⟩ := HCC.out f hfn
      obtain ⟨vp', vr', vm', vb', e0, hpi, -⟩ := hcf
      simp only [Value.agg.injEq, Array.mk.injEq, List.cons.injEq, and_true] at e0
      obtain ⟨rfl, rfl, rfl, rfl⟩ := e0
      obtain ⟨pa, pcap, rfl, hpc⟩ := hpi
      obtain ⟨b4, o4, rfl, w0⟩ := hpc k (by rw [hpl]; exact hlt)
      rw [hp] at w0
      have v1 := bkeep S.out.below v0
      have w1 := bkeep S.out.below w0
      have d0 := cell_of_block S.out.blk2 0 (.slice (some ⟨bc, o3, none⟩) n cc) rfl
      have z4 : (f : Int) < (n : Int) := by omega
      have z5 : (k : Int) < ((cs.getD f cf0).pc.length : Int) := by rw [hpl]; omega
      have z6 : (p : Int) < (m : Int) := by omega
      have HN : Hid (((wr.setCell ⟨B, p, none⟩ (.bool true)).drew).heap[B]? = some (.cells (bools (doneRow (l.take (q + 1)) cs k m)) 4 (0, 0))) := Lib.hid (by
       rw [← H1.out, ← bools_set]
       exact heap_setCell_block H.out p (.bool true))
      have KF : Hid (Frm (fun q => (Value.slice oa k oc).ownBlock = some q ∨ (Value.slice (some ⟨B, 0, none⟩) m m).ownBlock = some q) wr (wr.setCell ⟨B, p, none⟩ (.bool true)).drew) := Lib.hid (((Frm.refl (fun q => (Value.slice oa k oc).ownBlock = some q ∨ (Value.slice (some ⟨B, 0, none⟩) m m).ownBlock = some q) _).setCell (p := ⟨B, p, none⟩) (fun _ => .inr rfl) (.bool true)).drew)
      have MN := Lib.hid (M.out.step KF.out (ownsRow_frm (F := fun q => q = B) M.out.out (((Frm.refl (fun q => q = B) wr).setCell (p := ⟨B, p, none⟩) (fun _ => rfl) (.bool true)).drew) (fun q e1 e2 => by have := HOB.out q e1; omega)) (fun q hq => .inl hq))
      have HBN := Lib.hid ((HB.out.setCell (p := ⟨B, p, none⟩) HWS.out (.bool true)).drew)
      subst htk
      clear HHIT HMISS hp hp0 hp1 H1 hpc v0 w0 KF H M HB hpl S
      generalize (doneRow (l.take q) cs t m).getD p false = bx at *
      generalize (cs.getD f cf0).pc.length = pl at *
      go_wp2_with fail
      refine region_tail 14 (by kernel_rfl) (by kernel_rfl) ?_
      simp only [List.take_succ_cons, List.take_zero, List.drop_succ_cons, List.drop_zero]
      repeat still_step
      refine wpStill_nil ?_
      go_wp2_with fail
      go_roundg (l.length - (q + 1))
      case measure => omega
      case rel => exact ⟨q + 1, by omega, by simp, HN, MN, HBN⟩
     ·have z3 : ¬ (t : Int) = (k : Int) := by omega
      have HN : Hid (wr.heap[B]? = some (.cells (bools (doneRow (l.take (q + 1)) cs k m)) 4 (0, 0))) := Lib.hid (by rw [HMISS.out (fun e => htk e.symm)]; exact H.out)
      clear HHIT HMISS H S
      go_wp2_with fail
      go_roundg (l.length - (q + 1))
      case measure => omega
      case rel => exact ⟨q + 1, by omega, by simp, HN, M, HB⟩
    ·obtain rfl : q = l.length := by omega
     have z2 : ¬ (l.length : Int) < (l.length : Int) := by omega
     have HOT : Hid (OwnT w3.heap.size wr (.slice (some ⟨B, 0, none⟩) m m) (doneRow l cs k m)) := Lib.hid (ownT_made HWS.out (by have := H.out; rwa [List.take_length] at this) (by have := HRL.out l.length; rwa [List.take_length] at this) hln)
     have HAP : Hid (AP (.slice (some ⟨B, 0, none⟩) m m) (.slice oa k oc)) := Lib.hid (fun q e1 e2 => by have : B = q := (by simpa [Value.ownBlock] using e1); have := HOB.out q e2; omega)
     clear H S
     go_wp2_with (at_builtin; refine wpList_append_lies (wr.alloc (.cells #[.slice (some ⟨B, 0, none⟩) m m] 39)) rfl (.tmp 57) (.tmp 59) 36 rfl w3.heap.size 39 i1 (.slice none 0 0) 1 24 Try.underlying36 hi1 hy0 hy1 hy2 rfl (by decide) (.slice oa k oc) k vals rfl (World.ownsRow.alloc (by have := M.out.out; rwa [show (doneK l cs LN k).length = k from tab_len _ _] at this) _) ⟨wr.heap.size, 0, none⟩ 1 1 [.slice (some ⟨B, 0, none⟩) m m] rfl rfl (World.news_of_block (heap_alloc_new _ _)) (by simp [Value.oneCell']) (by omega) (by unfold maxLen; omega) (by omega) (by have := HB.out.size; simp only [alloc_size]; omega) (wr.heap.size + 1) (by simp) ?_; intro g7 cap7 w7 hown7 hgr7 hor7 hlt7; have HB7 := Lib.hid ((HB.out.alloc HB.out.size (.cells #[.slice (some ⟨B, 0, none⟩) m m] 39)).grown hgr7 (by have := HB.out.size; simp only [alloc_size]; omega) (fun q e => (World.ownsRow.lt M.out.out q e).1)); have M7 : Hid (BRM w3.heap.size (fun q => (Value.slice (some ⟨g7, 0, none⟩) (k + 1) cap7).ownBlock = some q) w7 (.slice (some ⟨g7, 0, none⟩) (k + 1) cap7) (vals ++ [.slice (some ⟨B, 0, none⟩) m m]) (doneK l cs LN (k + 1))) := Lib.hid (by rw [HKN.out]; exact (M.out.more (balloc wr (.cells #[.slice (some ⟨B, 0, none⟩) m m] 39))).push (HOT.out.more (balloc wr (.cells #[.slice (some ⟨B, 0, none⟩) m m] 39))) HAP.out hgr7 (by rw [show (doneK l cs LN k).length = k from tab_len _ _]; exact hown7) (own_hor (n := k + 1) (cap := cap7) hor7 (by simp only [alloc_size]; omega))); clear hown7 hgr7 hor7 hlt7)
     go_roundg (T - (k + 1))
     case measure => omega
     case rel => exact ⟨k + 1, _, by omega, by simp, M7, HB7⟩
  ·obtain rfl : k = T := by omega
   have z1 : ¬ (k : Int) < (k : Int) := by omega
   go_wp2_with fail
   go_ret
   exact ⟨_, rfl, M.out.rows, S.out.below⟩
end Go.Proofs.Ytlhpjfnfemebdaa
namespace Go.Proofs.Ytlhpjfnfemebdaa
open Go.RowKit
set_option maxRecDepth 100000 in
set_option maxHeartbeats 32000000 in
theorem rdepths_ok (v : Value) (s : Sp) (dep : Nat → Nat) (w : World) (h : SpV w v s) (hd : Dp s.confs.length s.ed dep) (hok : buildOk (s.confs.length : Int) s.ed = true) (hn : 0 < s.confs.length ∧ s.confs.length ≤ 500) (_hl : s.ed.length ≤ 1000000) :
  Calls Try.prog 14 #[v] w fun r w' => ∃ rv, r = .returned rv ∧ IntsAt w' rv (depL s.confs.length dep) ∧ Below w.heap.size w w' := by
 obtain ⟨vC, sa, sc, aa, ac, ta, tc, vP, vA, rfl, hC, hG, -, -⟩ := h.var
 obtain ⟨ca, cc, rfl, -⟩ := hC
 obtain ⟨hRt, -, hmem, -⟩ := sp_right hok
 have hlen : (allL (buildG (s.confs.length : Int) s.ed)).length ≤ 1000000 := by rw [allL_len hRt]; exact hG.sT
 have HAL := Lib.hid (fun (w' : World) (hb : Below w.heap.size w w') => rall_own _ _ w' (hG.below hb))
 have HD := Lib.hid (hd.mem hmem)
 obtain ⟨n, hnn⟩ : ∃ n, n = s.confs.length := ⟨_, rfl⟩
 rw [← hnn] at HAL HD hn hlen ⊢
 clear h hG hok hd _hl hmem hRt
 generalize allL (buildG (n : Int) s.ed) = l at *
 generalize (buildG (n : Int) s.ed).S.length = nS at *
 generalize (buildG (n : Int) s.ed).A.length = nA at *
 generalize (buildG (n : Int) s.ed).T.length = nT at *
 obtain ⟨hn0, hn5⟩ := hn
 try rw [← hnn]
 clear hnn
 have X0 := Lib.hid (heap_alloc_new w (.cells #[.slice ca n cc, .slice sa nS sc, .slice aa nA ac, .slice ta nT tc, vP, vA] 32))
 have HB := Lib.hid (balloc w (.cells #[.slice ca n cc, .slice sa nS sc, .slice aa nA ac, .slice ta nT tc, vP, vA] 32))
 go_enter Try.func14, Try.ntmps14
 go_wp2_with (first
  | (at_make; refine wpList_make_one _ rfl (.tmp 12) (.tmp 12) 22 rfl 3 (.int .i64 0) rfl 8 Try.underlying22 Try.info3 .i64 .i64 (n : Nat) (n : Nat) n rfl rfl rfl rfl (by omega) (by unfold maxLen; omega) ?_; intro w3 hh3 hb3 hlt3; have S3 : Hid (Bx2 w w3 #[.slice ca n cc, .slice sa nS sc, .slice aa nA ac, .slice ta nT tc, vP, vA] 32 (ints (List.replicate n 0)) 3) := Lib.hid ⟨HB.out.trans (hb3.mono HB.out.size), bheap hb3 X0.out, by rw [ints_replicate]; simpa using hh3⟩; clear hh3 hb3 hlt3 X0 HB))
 go_loopg [5] (n - 1) (fun fu c wr => ∃ (k : Nat) (out : List Int), k + fu = n ∧ 1 ≤ k ∧ c = .int .i64 k ∧ out.length = n ∧ Hid (out.getD 0 0 = 0 ∧ ∀ j, 1 ≤ j → j < k → out.getD j 0 = -1) ∧ Hid (Bx2 w wr #[.slice ca n cc, .slice sa nS sc, .slice aa nA ac, .slice ta nT tc, vP, vA] 32 (ints out) 3))
 case atStart => exact ⟨1, _, by omega, Nat.le_refl _, rfl, by simp, Lib.hid ⟨by simp [List.getD, hn0], fun j hj => by omega⟩, S3⟩
 case round =>
  clear S3
  obtain ⟨k, out, hk, hk1, rfl, hlen1, HO, S⟩ := hrel
  by_cases hlt : k < n
  ·have z1 : (k : Int) < (n : Int) := by omega
   have xc := cell_of_block S.out.blk2 k _ (ints_get out k (by omega))
   have xf := free_of_block S.out.blk2 k
   have HN : Hid ((out.set k (-1)).getD 0 0 = 0 ∧ ∀ j, 1 ≤ j → j < k + 1 → (out.set k (-1)).getD j 0 = -1) := Lib.hid ⟨by rw [getD_set _ _ _ _ _ (by omega), if_neg (by omega)]; exact HO.out.1, fun j h1 hj => by
    rw [getD_set _ _ _ _ _ (by omega)]
    split
    ·rfl
    ·exact HO.out.2 j h1 (by omega)⟩
   have SN := Lib.hid (S.out.set2 k (.int .i64 (-1)))
   rw [ints_set] at SN
   clear S HO
   generalize out.getD k 0 = xk at *
   go_wp2_with fail
   go_roundg (n - (k + 1))
   case measure => omega
   case rel => exact ⟨k + 1, _, by omega, by omega, by simp, by simpa using hlen1, HN, SN⟩
  ·obtain rfl : n = k := by omega
   have z1 : ¬ (n : Int) < (n : Int) := by omega
   have HST : Hid (RfD n l dep 0 0 out) := Lib.hid (RfD.start HD.out hlen1 HO.out.1 HO.out.2)
   clear HO hlen1 hlt
   have c1 := cell_of_block S.out.blk1 1 (.slice sa nS sc) rfl
   have c2 := cell_of_block S.out.blk1 2 (.slice aa nA ac) rfl
   have c3 := cell_of_block S.out.blk1 3 (.slice ta nT tc) rfl
   go_wp2_with (go_at_call 30; refine (HAL.out _ S.out.below).mono ?_; rintro e1 w4 ⟨ev, rfl, hE, hb4⟩; obtain ⟨ea, ec, rfl⟩ := ownv hE; have S4 := Lib.hid (S.out.more hb4); have ES4 := Lib.hid (eds_st (F := fun q => q = (w.heap.size + 1)) hE (fun q hq => by have := S.out.size; omega)); clear hE hb4 S c1 c2 c3)
   go_loopg [7] n (fun fu c wr => ∃ (d : Nat) (out : List Int), d + fu = n ∧ c = .int .i64 d ∧ Hid (RfD n l dep d 0 out) ∧ Hid (St (fun q => q = (w.heap.size + 1)) (fun w => EdgesAt w (.slice ea l.length ec) l) wr) ∧ Hid (Bx2 w wr #[.slice ca n cc, .slice sa nS sc, .slice aa nA ac, .slice ta nT tc, vP, vA] 32 (ints out) 3))
   case atStart => exact ⟨0, _, by omega, rfl, HST, ES4, S4⟩
   case round =>
    clear HST ES4 S4
    obtain ⟨d, out, hd, rfl, HR, ES, S⟩ := hrel
    by_cases hdn : d < n
    ·have z2 : (d : Int) < (n : Int) := by omega
     go_wp2_with fail
     go_loopg [8] l.length (fun fu c wr => ∃ (k : Nat) (out : List Int), k + fu = l.length ∧ c = .int .i64 k ∧ Hid (RfD n l dep d k out) ∧ Hid (St (fun q => q = (w.heap.size + 1)) (fun w => EdgesAt w (.slice ea l.length ec) l) wr) ∧ Hid (Bx2 w wr #[.slice ca n cc, .slice sa nS sc, .slice aa nA ac, .slice ta nT tc, vP, vA] 32 (ints out) 3))
     case atStart => exact ⟨0, _, by omega, rfl, HR, ES, S⟩
     case round =>
      clear HR ES S
      obtain ⟨k, out, hk, rfl, HR, ES, S⟩ := hrel
      by_cases hkl : k < l.length
      ·obtain ⟨ea', ec', e0, hec⟩ := ES.out.now
       cases e0
       obtain ⟨b2, o2, rfl, y1, y2, y3⟩ := hec k hkl
       have z5 : (k : Int) < (l.length : Int) := by omega
       obtain ⟨b1, b2', b3, b4⟩ := HD.out.ed (l.getD k (0, 0, 0)) (by simp [List.getD, hkl])
       obtain ⟨f, hf⟩ : ∃ f : Nat, (l.getD k (0, 0, 0)).1 = (f : Int) := ⟨(l.getD k (0, 0, 0)).1.toNat, by omega⟩
       obtain ⟨t, ht⟩ : ∃ t : Nat, (l.getD k (0, 0, 0)).2.2 = (t : Int) := ⟨(l.getD k (0, 0, 0)).2.2.toNat, by omega⟩
       have hfn : f < n := by omega
       have htn : t < n := by omega
       have hol := HR.out.1
       have HH := Lib.hid (fun h1 h2 => HR.out.hit HD.out hkl rfl h1 h2)
       have HM := Lib.hid (fun h1 => HR.out.miss HD.out hkl rfl h1)
       rw [hf] at y1 HH HM
       rw [ht] at y3 HH HM
       simp only [Int.toNat_natCast] at HH HM
       have xf := cell_of_block S.out.blk2 f _ (ints_get out f (by omega))
       have xt := cell_of_block S.out.blk2 t _ (ints_get out t (by omega))
       have xz := free_of_block S.out.blk2 t
       clear hec hf ht b1 b2' b3 b4 y2 HR hol
       by_cases h1 : out.getD f 0 = (d : Int)
       ·by_cases h2 : out.getD t 0 < 0
        ·have HN := Lib.hid (HH.out h1 h2)
         rw [h1] at xf
         have SN := Lib.hid (S.out.set2 t (.int .i64 ((d : Int) + 1)))
         rw [ints_set] at SN
         have KN := Lib.hid (ES.out.step (F' := fun q => q = (w.heap.size + 1)) ((Frm.refl (fun q => q = (w.heap.size + 1)) wr).setCell (p := ⟨w.heap.size + 1, t, none⟩) (fun _ => rfl) (.int .i64 ((d : Int) + 1))) (fun q hq => .inl hq))
         have e1 : IntKind.i64.wrap ((d : Int) + 1) = (d : Int) + 1 := IntWalk.i64_in _ (by omega)
         clear HH HM h1 S ES
         generalize out.getD t 0 = xx at *
         go_wp2_with fail
         go_roundg (l.length - (k + 1))
         case measure => omega
         case rel => exact ⟨k + 1, _, by omega, by simp, HN, KN, SN⟩
        ·have HN := Lib.hid (HM.out (fun h => h2 h.2))
         rw [h1] at xf
         clear HH HM h1
         generalize out.getD t 0 = xx at *
         go_wp2_with fail
         go_roundg (l.length - (k + 1))
         case measure => omega
         case rel => exact ⟨k + 1, _, by omega, by simp, HN, ES, S⟩
       ·have HN := Lib.hid (HM.out (fun h => h1 h.1))
        clear HH HM
        generalize out.getD t 0 = xx at *
        generalize out.getD f 0 = xy at *
        go_wp2_with fail
        go_roundg (l.length - (k + 1))
        case measure => omega
        case rel => exact ⟨k + 1, _, by omega, by simp, HN, ES, S⟩
      ·obtain rfl : k = l.length := by omega
       have z5 : ¬ (l.length : Int) < (l.length : Int) := by omega
       have HN := Lib.hid (HR.out.next HD.out)
       clear HR
       go_wp2_with fail
       go_roundg (n - (d + 1))
       case measure => omega
       case rel => exact ⟨d + 1, _, by omega, by simp, HN, ES, S⟩
    ·obtain rfl : d = n := by omega
     have E := Lib.hid (HR.out.last HD.out)
     have z2 : ¬ (d : Int) < (d : Int) := by omega
     clear HR ES
     go_wp2_with fail
     go_ret
     exact ⟨_, rfl, intsAt_block (by have := S.out.blk2; rwa [E.out] at this) (by unfold depL; rw [tab_len]) _, S.out.below⟩
end Go.Proofs.Ytlhpjfnfemebdaa
namespace Go.Proofs.Ytlhpjfnfemebdaa
open Go.RowKit
set_option maxRecDepth 100000 in
set_option maxHeartbeats 32000000 in
theorem rwidths_ok (v : Value) (s : Sp) (dep : Nat → Nat) (w : World) (h : SpV w v s) (hd : Dp s.confs.length s.ed dep) (hok : buildOk (s.confs.length : Int) s.ed = true) (hn : 0 < s.confs.length ∧ s.confs.length ≤ 500) (hl : s.ed.length ≤ 1000000) :
  Calls Try.prog 16 #[v] w fun r w' => ∃ rv, r = .returned rv ∧ IntsAt w' rv (widL s.confs.length dep) ∧ Below w.heap.size w w' := by
 obtain ⟨i0, hi0, hz0, hz1, hz2⟩ := info_parts Try.info3
 have HDE := Lib.hid (fun (w' : World) (hb : Below w.heap.size w w') => rdepths_ok v s dep w' (h.below hb) hd hok hn hl)
 obtain ⟨vC, sa, sc, aa, ac, ta, tc, vP, vA, rfl, hC, hG, hP, hA⟩ := h.var
 obtain ⟨ca, cc, rfl, -⟩ := hC
 obtain ⟨pa, pc, rfl, -⟩ := hP
 obtain ⟨ba, bc, rfl, -⟩ := hA
 have HD := Lib.hid hd
 obtain ⟨n, hnn⟩ : ∃ n, n = s.confs.length := ⟨_, rfl⟩
 rw [← hnn] at HDE HD hn ⊢
 clear h hG hok hd hl
 generalize (buildG (n : Int) s.ed).S.length = nS at *
 generalize (buildG (n : Int) s.ed).A.length = nA at *
 generalize (buildG (n : Int) s.ed).T.length = nT at *
 generalize s.par.length = nP at *
 generalize s.ag.length = nB at *
 obtain ⟨hn0, hn5⟩ := hn
 try rw [← hnn]
 clear hnn
 have S0 := Lib.hid (BxS.start w #[.slice ca n cc, .slice sa nS sc, .slice aa nA ac, .slice ta nT tc, .slice pa nP pc, .slice ba nB bc] 32)
 have HDN := HD.out.le (n - 1) (by omega)
 have HPO : Hid (∀ x, 0 < cntD dep n x ↔ x ≤ dep (n - 1)) := Lib.hid (fun x => HD.out.wpos hn0)
 have HDL : Hid ((depL n dep).length = n ∧ ∀ j, j < n → (depL n dep).getD j 0 = (dep j : Int)) := Lib.hid ⟨tab_len _ _, fun j hj => tab_get _ _ _ _ hj⟩
 have c0 := cell_of_block S0.out.blk 0 (.slice ca n cc) rfl
 have c1 := cell_of_block S0.out.blk 1 (.slice sa nS sc) rfl
 have c2 := cell_of_block S0.out.blk 2 (.slice aa nA ac) rfl
 have c3 := cell_of_block S0.out.blk 3 (.slice ta nT tc) rfl
 have c4 := cell_of_block S0.out.blk 4 (.slice pa nP pc) rfl
 have c5 := cell_of_block S0.out.blk 5 (.slice ba nB bc) rfl
 have hdl5 : (depL n dep).length ≤ 500 := by rw [HDL.out.1]; exact hn5
 clear HD
 have HWL : Hid (widL n dep = widK dep n (dep (n - 1) + 1)) := Lib.hid rfl
 generalize depL n dep = DL at *
 go_enter Try.func16, Try.ntmps16
 go_wp2_with (go_at_call 14; refine (HDE.out _ S0.out.below).mono ?_; rintro e1 w2 ⟨dv, rfl, hI, hb2⟩; obtain ⟨da, dc, rfl, hI⟩ := hI; have hI' : IntsAt w2 (.slice da DL.length dc) DL := ⟨da, dc, rfl, hI⟩; have S2 := Lib.hid (S0.out.more hb2); have IS := Lib.hid hI'; clear hI hI' hb2 S0 c0 c1 c2 c3 c4 c5)
 go_loopg [3, 5] DL.length (fun fu lv c wr => ∃ (k m : Nat), k + fu = DL.length ∧ c = .int .i64 k ∧ Hid (OwnI w2.heap.size wr lv (widK dep n m)) ∧ Hid (m = if k ≤ dep (n - 1) + 1 then k else dep (n - 1) + 1) ∧ Hid (Below w2.heap.size w2 wr))
 case atStart => exact ⟨0, 0, by omega, rfl, Lib.hid (OwnI.nil _ _), Lib.hid (if_pos (Nat.zero_le _)).symm, Lib.hid (Below.refl _ _)⟩
 case round =>
  obtain ⟨k, m, hk, rfl, O, HM, HB⟩ := hrel
  have HLM : Hid ((widK dep n m).length = m) := Lib.hid (tab_len _ _)
  obtain ⟨la, lc, hlv⟩ := ownv O.out
  rw [HLM.out] at hlv
  subst hlv
  by_cases hlt : k < DL.length
  ·have z1 : (k : Int) < (DL.length : Int) := by omega
   have hnl := HDL.out.1
   have HNL : Hid (DL.length = n) := Lib.hid hnl
   clear hnl
   go_wp2_with fail
   obtain ⟨wr1, rfl⟩ : ∃ z : World, z = wr := ⟨_, rfl⟩
   go_loopg [6, 7] DL.length (fun fu nv c wr => wr = wr1 ∧ ∃ (j : Nat), j + fu = DL.length ∧ c = .int .i64 j ∧ nv = .int .i64 (cntD dep j k : Nat))
   case atStart => exact ⟨rfl, 0, by omega, rfl, rfl⟩
   case round =>
    obtain ⟨rfl, j, hj, rfl, rfl⟩ := hrel
    by_cases hjl : j < DL.length
    ·have z2 : (j : Int) < (DL.length : Int) := by omega
     have hjn : j < n := by have := HNL.out; omega
     obtain ⟨da', dc', e0, hI⟩ := IS.out.below HB.out
     cases e0
     obtain ⟨b1, o1, rfl, xd⟩ := hI j hjl
     rw [HDL.out.2 j hjn] at xd
     have hs := cntD_succ dep j k
     have hcl : cntD dep j k ≤ j := by unfold cntD; have := List.countP_le_length (p := fun j => decide (dep j = k)) (l := List.range j); simpa using this
     have hn6 : j ≤ 500 := by omega
     clear hI
     by_cases he : dep j = k
     ·rw [he] at xd
      rw [if_pos he] at hs
      have E := Lib.hid hs
      clear hs he
      generalize cntD dep j k = cd at *
      have e1 : IntKind.i64.wrap ((cd : Int) + 1) = (cd : Int) + 1 := IntWalk.i64_in _ (by omega)
      go_wp2_with fail
      go_roundg (DL.length - (j + 1))
      case measure => omega
      case rel => exact ⟨rfl, j + 1, by omega, by simp, by rw [E.out]; simp⟩
     ·rw [if_neg he, Nat.add_zero] at hs
      have E := Lib.hid hs
      have z3 : ¬ ((dep j : Int) = (k : Int)) := by omega
      clear hs he
      generalize dep j = dj at *
      generalize cntD dep j k = cd at *
      go_wp2_with fail
      go_roundg (DL.length - (j + 1))
      case measure => omega
      case rel => exact ⟨rfl, j + 1, by omega, by simp, by rw [E.out]; rfl⟩
    ·obtain rfl : j = DL.length := by omega
     have z2 : ¬ (DL.length : Int) < (DL.length : Int) := by omega
     have hpo := HPO.out k
     rw [← HNL.out] at hpo
     have hcl : cntD dep DL.length k ≤ DL.length := by unfold cntD; have := List.countP_le_length (p := fun j => decide (dep j = k)) (l := List.range DL.length); simpa using this
     by_cases hp : 0 < cntD dep DL.length k
     ·have hmk : m = k := by
       have h1 := HM.out
       have := hpo.1 hp
       rw [HNL.out] at this
       rw [if_pos (by omega)] at h1; exact h1
      subst hmk
      have HN : Hid (widK dep n (m + 1) = widK dep n m ++ [(cntD dep DL.length m : Int)]) := Lib.hid (by
       unfold widK
       rw [tab_snoc, HNL.out])
      have HMN : Hid (m + 1 = if m + 1 ≤ dep (n - 1) + 1 then m + 1 else dep (n - 1) + 1) := Lib.hid (by
       have := hpo.1 hp
       rw [HNL.out] at this
       rw [if_pos (by omega)])
      have HOW : Hid (wr.ownsRow w2.heap.size 3 1 (.slice la m lc) m ((widK dep n m).map (Value.int .i64))) := Lib.hid (by have := O.out; unfold OwnI at this; rwa [HLM.out] at this)
      have z4 : (0 : Int) < (cntD dep DL.length m : Int) := by omega
      clear O HM hpo hp
      generalize cntD dep DL.length m = cd at *
      go_wp2_with (at_builtin; refine wpList_append_lies (wr.alloc (.cells #[.int .i64 (cd : Nat)] 3)) rfl (.tmp 32) (.tmp 34) 22 rfl w2.heap.size 3 i0 (.int .i64 0) 1 8 Try.underlying22 hi0 hz0 hz1 hz2 rfl (by decide) (.slice la m lc) m _ rfl (HOW.out.alloc _) ⟨wr.heap.size, 0, none⟩ 1 1 [.int .i64 (cd : Nat)] rfl rfl (World.news_of_block (heap_alloc_new _ _)) (by simp [Value.oneCell']) (by omega) (by unfold maxLen; omega) (by omega) (by have := HB.out.size; simp only [alloc_size]; omega) (wr.heap.size + 1) (by simp) ?_; intro g7 cap7 w7 hown7 hgr7 hor7 hlt7; have HB7 := Lib.hid (below_own HB.out HOW.out hgr7); have O7 : Hid (OwnI w2.heap.size w7 (.slice (some ⟨g7, 0, none⟩) (m + 1) cap7) (widK dep n (m + 1))) := Lib.hid (by unfold OwnI; rw [HN.out, List.length_append, List.map_append, HLM.out]; exact hown7); clear hown7 hgr7 hor7 hlt7)
      go_roundg (DL.length - (m + 1))
      case measure => omega
      case rel => exact ⟨m + 1, m + 1, by omega, by simp, O7, HMN, HB7⟩
     ·have HMN : Hid (m = if k + 1 ≤ dep (n - 1) + 1 then k + 1 else dep (n - 1) + 1) := Lib.hid (by
       have h1 := HM.out
       have h2 : ¬ k ≤ dep (n - 1) := fun h => hp (hpo.2 (by rw [HNL.out]; exact h))
       rw [if_neg (by omega)]
       split at h1 <;> omega)
      have z4 : ¬ (0 : Int) < (cntD dep DL.length k : Int) := by omega
      clear HM hpo hp
      generalize cntD dep DL.length k = cd at *
      go_wp2_with fail
      go_roundg (DL.length - (k + 1))
      case measure => omega
      case rel => exact ⟨k + 1, m, by omega, by simp, O, HMN, HB⟩
  ·obtain rfl : k = DL.length := by omega
   have z1 : ¬ (DL.length : Int) < (DL.length : Int) := by omega
   have HM2 : Hid (m = dep (n - 1) + 1) := Lib.hid (by have h1 := HM.out; have h2 := HDL.out.1; rw [h2] at h1; split at h1 <;> omega)
   clear HM
   go_wp2_with fail
   go_ret
   exact ⟨_, rfl, by have h3 := O.out.ints; have h4 := HM2.out; rw [HWL.out, ← h4]; exact h3, S2.out.below.trans (HB.out.mono S2.out.below.size)⟩
end Go.Proofs.Ytlhpjfnfemebdaa
namespace Go.Proofs.Ytlhpjfnfemebdaa
open Go.RowKit
inductive RK
 | eq (x : Value)
 | edges (l : List Ed)
 | graph (g : Gr)
 | bools (l : List Bool)
 | ints (l : List Int)
def RK.rel : RK → Value → World → Prop
 | .eq x, v, _ => v = x
 | .edges l, v, w => EdgesAt w v l
 | .graph g, v, w => GraphAt w v g
 | .bools l, v, w => BoolsAt w v l
 | .ints l, v, w => IntsAt w v l
theorem RK.mono (k : RK) {v : Value} {w w' : World} (hb : Below w.heap.size w w') (h : k.rel v w) : k.rel v w' := by
 cases k with
 | eq x => exact h
 | edges l => exact EdgesAt.below h hb
 | graph g => exact GraphAt.below h hb
 | bools l => exact BoolsAt.below h hb
 | ints l => exact IntsAt.below h hb
def relL (ks : List RK) (j : Nat) (v : Value) (w : World) : Prop := (ks.getD j (.eq undef)).rel v w
end Go.Proofs.Ytlhpjfnfemebdaa
