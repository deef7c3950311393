/-
  A case's space: spinnakerlaw30.made. The statements' memory: a case and its space, boxed.
-/
import Derived.Test.YtlhpjfnfemebdaaAllB
import Derived.Test.YtlhpjfnfemebdaaJRReach
import Derived.Test.YtlhpjfnfemebdaaKnP
namespace Go.Proofs.Ytlhpjfnfemebdaa
open Go.RowKit
theorem six_end {w wx : World} {b : Nat} {c : Array Value} {t : TypeId} (hb : Bx2 w wx c t #[.slice none 0 0, .slice none 0 0, .slice none 0 0, .slice none 0 0, .slice none 0 0, .slice none 0 0] 32) (he : w.heap.size + 1 = b) (z0 z1 z2 z3 z4 z5 : Value) : Below w.heap.size w ((((((wx.setCell ⟨b, 0, none⟩ z0).setCell ⟨b, 1, none⟩ z1).setCell ⟨b, 2, none⟩ z2).setCell ⟨b, 3, none⟩ z3).setCell ⟨b, 4, none⟩ z4).setCell ⟨b, 5, none⟩ z5) ∧
  ((((((wx.setCell ⟨b, 0, none⟩ z0).setCell ⟨b, 1, none⟩ z1).setCell ⟨b, 2, none⟩ z2).setCell ⟨b, 3, none⟩ z3).setCell ⟨b, 4, none⟩ z4).setCell ⟨b, 5, none⟩ z5).heap[b]? = some (.cells #[z0, z1, z2, z3, z4, z5] 32 (0, 0)) ∧
  Frm (fun q => q = b) wx ((((((wx.setCell ⟨b, 0, none⟩ z0).setCell ⟨b, 1, none⟩ z1).setCell ⟨b, 2, none⟩ z2).setCell ⟨b, 3, none⟩ z3).setCell ⟨b, 4, none⟩ z4).setCell ⟨b, 5, none⟩ z5) := by
 subst he
 have h0 : w.heap.size ≤ w.heap.size + 1 := by omega
 refine ⟨?_, ?_, ?_⟩
 ·exact (((((hb.below.setCell (p := ⟨w.heap.size + 1, 0, none⟩) h0 z0).setCell (p := ⟨w.heap.size + 1, 1, none⟩) h0 z1).setCell (p := ⟨w.heap.size + 1, 2, none⟩) h0 z2).setCell (p := ⟨w.heap.size + 1, 3, none⟩) h0 z3).setCell (p := ⟨w.heap.size + 1, 4, none⟩) h0 z4).setCell (p := ⟨w.heap.size + 1, 5, none⟩) h0 z5
 ·exact heap_setCell_block (i := 5) (v := z5) (heap_setCell_block (i := 4) (v := z4) (heap_setCell_block (i := 3) (v := z3) (heap_setCell_block (i := 2) (v := z2) (heap_setCell_block (i := 1) (v := z1) (heap_setCell_block (i := 0) (v := z0) hb.blk2)))))
 ·exact ((((((Frm.refl (fun q => q = w.heap.size + 1) _).setCell (p := ⟨w.heap.size + 1, 0, none⟩) (fun _ => rfl) z0).setCell (p := ⟨w.heap.size + 1, 1, none⟩) (fun _ => rfl) z1).setCell (p := ⟨w.heap.size + 1, 2, none⟩) (fun _ => rfl) z2).setCell (p := ⟨w.heap.size + 1, 3, none⟩) (fun _ => rfl) z3).setCell (p := ⟨w.heap.size + 1, 4, none⟩) (fun _ => rfl) z4).setCell (p := ⟨w.heap.size + 1, 5, none⟩) (fun _ => rfl) z5
def madeS (u : PUn) (model room budget : Int) : Option Sp := if lightU u = true ∧ budget ≤ 120 then spaceS u model room budget else none
def MadeR (w : World) (R : Option Sp) (r : Ending) (w' : World) : Prop :=
 (match R with
  | none => r = .returned (.tuple #[.agg #[.slice none 0 0, .slice none 0 0, .slice none 0 0, .slice none 0 0, .slice none 0 0, .slice none 0 0], .bool false])
  | some s => ∃ v, r = .returned (.tuple #[v, .bool true]) ∧ SpV w' v s) ∧ Below w.heap.size w w'
set_option maxRecDepth 100000 in
set_option maxHeartbeats 32000000 in
theorem made_not (v : Value) (u : PUn) (model room budget : Int) (w : World) (h : CaseV w v u model room budget) (hn : ¬ (lightU u = true ∧ budget ≤ 120)) :
  Calls Try.prog 7 #[v] w fun r w' => r = .returned (.tuple #[.agg #[.slice none 0 0, .slice none 0 0, .slice none 0 0, .slice none 0 0, .slice none 0 0, .slice none 0 0], .bool false]) ∧ Below w.heap.size w w' := by
 obtain ⟨vi, vr, vc, rfl, hu⟩ := h.ex
 have HLI := Lib.hid (fun (w' : World) (hb : Below w.heap.size w w') => lightu_ok _ u w' (hu.below hb))
 have S0 := Lib.hid (Bx2.start w #[.int .i64 u.mod, vi, vr, vc, .int .i64 model, .int .i64 room, .int .i64 budget] 27 #[.slice none 0 0, .slice none 0 0, .slice none 0 0, .slice none 0 0, .slice none 0 0, .slice none 0 0] 32)
 have c0 := cell_of_block S0.out.blk1 0 (.int .i64 u.mod) rfl
 have c1 := cell_of_block S0.out.blk1 1 vi rfl
 have c2 := cell_of_block S0.out.blk1 2 vr rfl
 have c3 := cell_of_block S0.out.blk1 3 vc rfl
 clear h hu
 cases hl : lightU u
 all_goals rw [hl] at HLI
 ·clear hn hl
  go_enter Try.func7, Try.ntmps7
  go_wp2_with (go_at_call 26; refine (HLI.out _ S0.out.below).mono ?_; rintro e1 w2 ⟨rfl, hb2⟩; have S2 := Lib.hid (S0.out.more hb2); clear hb2 c0 c1 c2 c3; have r0 := cell_of_block S2.out.blk2 0 (.slice none 0 0) rfl; have r1 := cell_of_block S2.out.blk2 1 (.slice none 0 0) rfl; have r2 := cell_of_block S2.out.blk2 2 (.slice none 0 0) rfl; have r3 := cell_of_block S2.out.blk2 3 (.slice none 0 0) rfl; have r4 := cell_of_block S2.out.blk2 4 (.slice none 0 0) rfl; have r5 := cell_of_block S2.out.blk2 5 (.slice none 0 0) rfl; have q0 := free_of_block S2.out.blk2 0; have q1 := free_of_block S2.out.blk2 1; have q2 := free_of_block S2.out.blk2 2; have q3 := free_of_block S2.out.blk2 3; have q4 := free_of_block S2.out.blk2 4; have q5 := free_of_block S2.out.blk2 5)
  obtain ⟨hBE, hKB, -⟩ := six_end S2.out rfl (.slice none 0 0) (.slice none 0 0) (.slice none 0 0) (.slice none 0 0) (.slice none 0 0) (.slice none 0 0)
  have y0 := cell_of_block hKB 0 (.slice none 0 0) rfl
  have y1 := cell_of_block hKB 1 (.slice none 0 0) rfl
  have y2 := cell_of_block hKB 2 (.slice none 0 0) rfl
  have y3 := cell_of_block hKB 3 (.slice none 0 0) rfl
  have y4 := cell_of_block hKB 4 (.slice none 0 0) rfl
  have y5 := cell_of_block hKB 5 (.slice none 0 0) rfl
  refine bodyPost_ret (v := .tuple #[.agg #[.slice none 0 0, .slice none 0 0, .slice none 0 0, .slice none 0 0, .slice none 0 0, .slice none 0 0], .bool false]) (by simp [results, Try.results7, go_sem, y0, y1, y2, y3, y4, y5]) rfl ?_
  exact ⟨rfl, hBE⟩
 ·have hbg : (120 : Int) < budget := by
   have : ¬ budget ≤ 120 := fun h => hn ⟨hl, h⟩
   omega
  clear hn hl
  go_enter Try.func7, Try.ntmps7
  go_wp2_with (go_at_call 26; refine (HLI.out _ S0.out.below).mono ?_; rintro e1 w2 ⟨rfl, hb2⟩; have S2 := Lib.hid (S0.out.more hb2); clear hb2 c0 c1 c2 c3; have c6 := cell_of_block S2.out.blk1 6 (.int .i64 budget) rfl; have r0 := cell_of_block S2.out.blk2 0 (.slice none 0 0) rfl; have r1 := cell_of_block S2.out.blk2 1 (.slice none 0 0) rfl; have r2 := cell_of_block S2.out.blk2 2 (.slice none 0 0) rfl; have r3 := cell_of_block S2.out.blk2 3 (.slice none 0 0) rfl; have r4 := cell_of_block S2.out.blk2 4 (.slice none 0 0) rfl; have r5 := cell_of_block S2.out.blk2 5 (.slice none 0 0) rfl; have q0 := free_of_block S2.out.blk2 0; have q1 := free_of_block S2.out.blk2 1; have q2 := free_of_block S2.out.blk2 2; have q3 := free_of_block S2.out.blk2 3; have q4 := free_of_block S2.out.blk2 4; have q5 := free_of_block S2.out.blk2 5)
  obtain ⟨hBE, hKB, -⟩ := six_end S2.out rfl (.slice none 0 0) (.slice none 0 0) (.slice none 0 0) (.slice none 0 0) (.slice none 0 0) (.slice none 0 0)
  have y0 := cell_of_block hKB 0 (.slice none 0 0) rfl
  have y1 := cell_of_block hKB 1 (.slice none 0 0) rfl
  have y2 := cell_of_block hKB 2 (.slice none 0 0) rfl
  have y3 := cell_of_block hKB 3 (.slice none 0 0) rfl
  have y4 := cell_of_block hKB 4 (.slice none 0 0) rfl
  have y5 := cell_of_block hKB 5 (.slice none 0 0) rfl
  refine bodyPost_ret (v := .tuple #[.agg #[.slice none 0 0, .slice none 0 0, .slice none 0 0, .slice none 0 0, .slice none 0 0, .slice none 0 0], .bool false]) (by simp [results, Try.results7, go_sem, y0, y1, y2, y3, y4, y5]) rfl ?_
  exact ⟨rfl, hBE⟩
set_option maxRecDepth 100000 in
set_option maxHeartbeats 32000000 in
theorem made_ok (v : Value) (u : PUn) (model room budget : Int) (w : World) (h : CaseV w v u model room budget) : Calls Try.prog 7 #[v] w (MadeR w (madeS u model room budget)) := by
 unfold madeS
 by_cases hn : ¬ (lightU u = true ∧ budget ≤ 120)
 ·rw [if_neg hn]
  exact made_not v u model room budget w h hn
 have hn := Classical.not_not.1 hn
 rw [if_pos hn]
 obtain ⟨hl, hbg⟩ := hn
 obtain ⟨vi, vr, vc, rfl, hu⟩ := h.ex
 have HLI := Lib.hid (fun (w' : World) (hb : Below w.heap.size w w') => lightu_ok _ u w' (hu.below hb))
 have HAL := Lib.hid (fun (w' : World) (hb : Below w.heap.size w w') => all_any15 _ u model room budget w' (hu.below hb) (lightU_L hl) (by omega))
 rw [hl] at HLI
 have z0 : ¬ (120 : Int) < budget := by omega
 have S0 := Lib.hid (Bx2.start w #[.int .i64 u.mod, vi, vr, vc, .int .i64 model, .int .i64 room, .int .i64 budget] 27 #[.slice none 0 0, .slice none 0 0, .slice none 0 0, .slice none 0 0, .slice none 0 0, .slice none 0 0] 32)
 have c0 := cell_of_block S0.out.blk1 0 (.int .i64 u.mod) rfl
 have c1 := cell_of_block S0.out.blk1 1 vi rfl
 have c2 := cell_of_block S0.out.blk1 2 vr rfl
 have c3 := cell_of_block S0.out.blk1 3 vc rfl
 clear h hu hl
 generalize spaceS u model room budget = R at *
 cases R with
 | none =>
  go_enter Try.func7, Try.ntmps7
  go_wp2_with (first
   | (go_at_call 27; refine (HAL.out _ S2.out.below).mono ?_; rintro e1 w3 ⟨⟨e, rfl, he⟩, hb3⟩; have S3 := Lib.hid (S2.out.more (hb3.trans ((balloc w3 (.cells #[.slice none 0 0, .slice none 0 0, .slice none 0 0, .slice none 0 0, .slice none 0 0, .slice none 0 0] 32)).mono hb3.size))); clear hb3 c0 c1 c2 c3 c4 c5 c6; have r0 := cell_of_block S3.out.blk2 0 (.slice none 0 0) rfl; have r1 := cell_of_block S3.out.blk2 1 (.slice none 0 0) rfl; have r2 := cell_of_block S3.out.blk2 2 (.slice none 0 0) rfl; have r3 := cell_of_block S3.out.blk2 3 (.slice none 0 0) rfl; have r4 := cell_of_block S3.out.blk2 4 (.slice none 0 0) rfl; have r5 := cell_of_block S3.out.blk2 5 (.slice none 0 0) rfl; have q0 := free_of_block S3.out.blk2 0; have q1 := free_of_block S3.out.blk2 1; have q2 := free_of_block S3.out.blk2 2; have q3 := free_of_block S3.out.blk2 3; have q4 := free_of_block S3.out.blk2 4; have q5 := free_of_block S3.out.blk2 5)
   | (go_at_call 26; refine (HLI.out _ S0.out.below).mono ?_; rintro e1 w2 ⟨rfl, hb2⟩; have S2 := Lib.hid (S0.out.more hb2); clear hb2 c0 c1 c2 c3; have c0 := cell_of_block S2.out.blk1 0 (.int .i64 u.mod) rfl; have c1 := cell_of_block S2.out.blk1 1 vi rfl; have c2 := cell_of_block S2.out.blk1 2 vr rfl; have c3 := cell_of_block S2.out.blk1 3 vc rfl; have c4 := cell_of_block S2.out.blk1 4 (.int .i64 model) rfl; have c5 := cell_of_block S2.out.blk1 5 (.int .i64 room) rfl; have c6 := cell_of_block S2.out.blk1 6 (.int .i64 budget) rfl))
  obtain ⟨hBE, hKB, -⟩ := six_end S3.out rfl (.slice none 0 0) (.slice none 0 0) (.slice none 0 0) (.slice none 0 0) (.slice none 0 0) (.slice none 0 0)
  have y0 := cell_of_block hKB 0 (.slice none 0 0) rfl
  have y1 := cell_of_block hKB 1 (.slice none 0 0) rfl
  have y2 := cell_of_block hKB 2 (.slice none 0 0) rfl
  have y3 := cell_of_block hKB 3 (.slice none 0 0) rfl
  have y4 := cell_of_block hKB 4 (.slice none 0 0) rfl
  have y5 := cell_of_block hKB 5 (.slice none 0 0) rfl
  refine bodyPost_ret (v := .tuple #[.agg #[.slice none 0 0, .slice none 0 0, .slice none 0 0, .slice none 0 0, .slice none 0 0, .slice none 0 0], .bool false]) (by simp [results, Try.results7, go_sem, y0, y1, y2, y3, y4, y5, he]) rfl ?_
  exact ⟨rfl, hBE⟩
 | some s =>
  go_enter Try.func7, Try.ntmps7
  go_wp2_with (first
   | (go_at_call 27; refine (HAL.out _ S2.out.below).mono ?_; rintro e1 w3 ⟨⟨sv, rfl, hsv, hst⟩, hb3⟩; obtain ⟨vC, sa, sc, aa, ac, ta, tc, vP, vA, rfl, hc1, -, hp1, ha1⟩ := id hsv.var; obtain ⟨xc, xcc, rfl, -⟩ := hc1; obtain ⟨xp, xpc, rfl, -⟩ := hp1; obtain ⟨xa, xac, rfl, -⟩ := ha1; have HS3 := Lib.hid hsv; have HT3 := Lib.hid hst; have H2 : Hid (w.heap.size + 2 ≤ w2.heap.size) := Lib.hid S2.out.size; have S3 := Lib.hid (S2.out.more (hb3.trans ((balloc w3 (.cells #[.slice xc s.confs.length xcc, .slice sa (buildG s.confs.length s.ed).S.length sc, .slice aa (buildG s.confs.length s.ed).A.length ac, .slice ta (buildG s.confs.length s.ed).T.length tc, .slice xp s.par.length xpc, .slice xa s.ag.length xac] 32)).mono hb3.size))); clear hb3 hsv hst c0 c1 c2 c3 c4 c5 c6; have r0 := cell_of_block S3.out.blk2 0 (.slice none 0 0) rfl; have r1 := cell_of_block S3.out.blk2 1 (.slice none 0 0) rfl; have r2 := cell_of_block S3.out.blk2 2 (.slice none 0 0) rfl; have r3 := cell_of_block S3.out.blk2 3 (.slice none 0 0) rfl; have r4 := cell_of_block S3.out.blk2 4 (.slice none 0 0) rfl; have r5 := cell_of_block S3.out.blk2 5 (.slice none 0 0) rfl; have q0 := free_of_block S3.out.blk2 0; have q1 := free_of_block S3.out.blk2 1; have q2 := free_of_block S3.out.blk2 2; have q3 := free_of_block S3.out.blk2 3; have q4 := free_of_block S3.out.blk2 4; have q5 := free_of_block S3.out.blk2 5)
   | (go_at_call 26; refine (HLI.out _ S0.out.below).mono ?_; rintro e1 w2 ⟨rfl, hb2⟩; have S2 := Lib.hid (S0.out.more hb2); clear hb2 c0 c1 c2 c3; have c0 := cell_of_block S2.out.blk1 0 (.int .i64 u.mod) rfl; have c1 := cell_of_block S2.out.blk1 1 vi rfl; have c2 := cell_of_block S2.out.blk1 2 vr rfl; have c3 := cell_of_block S2.out.blk1 3 vc rfl; have c4 := cell_of_block S2.out.blk1 4 (.int .i64 model) rfl; have c5 := cell_of_block S2.out.blk1 5 (.int .i64 room) rfl; have c6 := cell_of_block S2.out.blk1 6 (.int .i64 budget) rfl))
  obtain ⟨hBE, hKB, hFR⟩ := six_end S3.out rfl (.slice xc s.confs.length xcc) (.slice sa (buildG s.confs.length s.ed).S.length sc) (.slice aa (buildG s.confs.length s.ed).A.length ac) (.slice ta (buildG s.confs.length s.ed).T.length tc) (.slice xp s.par.length xpc) (.slice xa s.ag.length xac)
  have y0 := cell_of_block hKB 0 (.slice xc s.confs.length xcc) rfl
  have y1 := cell_of_block hKB 1 (.slice sa (buildG s.confs.length s.ed).S.length sc) rfl
  have y2 := cell_of_block hKB 2 (.slice aa (buildG s.confs.length s.ed).A.length ac) rfl
  have y3 := cell_of_block hKB 3 (.slice ta (buildG s.confs.length s.ed).T.length tc) rfl
  have y4 := cell_of_block hKB 4 (.slice xp s.par.length xpc) rfl
  have y5 := cell_of_block hKB 5 (.slice xa s.ag.length xac) rfl
  refine bodyPost_ret (v := .tuple #[.agg #[.slice xc s.confs.length xcc, .slice sa (buildG s.confs.length s.ed).S.length sc, .slice aa (buildG s.confs.length s.ed).A.length ac, .slice ta (buildG s.confs.length s.ed).T.length tc, .slice xp s.par.length xpc, .slice xa s.ag.length xac], .bool true]) (by simp [results, Try.results7, go_sem, y0, y1, y2, y3, y4, y5]) rfl ?_
  have hF3 := (bfrm (balloc w3 (.cells #[.slice xc s.confs.length xcc, .slice sa (buildG s.confs.length s.ed).S.length sc, .slice aa (buildG s.confs.length s.ed).A.length ac, .slice ta (buildG s.confs.length s.ed).T.length tc, .slice xp s.par.length xpc, .slice xa s.ag.length xac] 32)) (fun q => q < w2.heap.size)).trans2 hFR (fun i _ hi => by have := H2.out; omega)
  exact ⟨⟨_, rfl, HS3.out.keep HT3.out hF3 (fun g hg => (hg.below (balloc w3 _)).offC S3.out.blk2 (by intro i x h; rcases i with _ | _ | _ | _ | _ | _ | i <;> simp at h) hFR)⟩, hBE⟩
end Go.Proofs.Ytlhpjfnfemebdaa
namespace Go.Proofs.Ytlhpjfnfemebdaa
open Go.RowKit
structure LS (w wr : World) (CC : Array Value) (b : Nat) (SV : Array Value) (s : Sp) : Prop where
 below : Below w.heap.size w wr
 bc : wr.heap[w.heap.size]? = some (.cells CC 27 (0, 0))
 bs : wr.heap[b]? = some (.cells SV 32 (0, 0))
 sv : SpV wr (.agg SV) s
theorem LS.more {w wr w' : World} {CC SV : Array Value} {b : Nat} {s : Sp} (h : LS w wr CC b SV s) (hb : Below wr.heap.size wr w') : LS w w' CC b SV s :=
 ⟨h.below.trans (hb.mono h.below.size), bheap hb h.bc, bheap hb h.bs, h.sv.below hb⟩
theorem LS.start {w w2 : World} {CC SV : Array Value} {s : Sp} (hb : Below w.heap.size w w2) (hc : w2.heap[w.heap.size]? = some (.cells CC 27 (0, 0))) (hs : SpV w2 (.agg SV) s) : LS w (w2.alloc (.cells SV 32)) CC w2.heap.size SV s :=
 ⟨hb.trans ((balloc w2 _).mono hb.size), bheap (balloc w2 _) hc, heap_alloc_new w2 _, hs.below (balloc w2 _)⟩
theorem made_good {u : PUn} {model room budget : Int} {s : Sp} (h : madeS u model room budget = some s) : SpG u model room s ∧ UnL u := by
 unfold madeS at h
 split at h
 ·rename_i hc
  exact ⟨sp_good h (by omega), lightU_L hc.1⟩
 ·cases h
end Go.Proofs.Ytlhpjfnfemebdaa
