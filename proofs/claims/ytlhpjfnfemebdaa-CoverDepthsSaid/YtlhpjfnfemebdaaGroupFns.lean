/-
  scc.groups: the walk, over any function. scc.Groups, scc.Within: the walks.
-/
import Derived.Laws.EntriesVeiled
import Derived.Test.YtlhpjfnfemebdaaSccParts
namespace Go.Proofs.Ytlhpjfnfemebdaa
open Go.RowKit
theorem Try.info22 : (Try.prog.info? 22).map (fun i => (i.zero, i.size, i.bytes)) = some (some (.slice none 0 0), 1, 24) := by kernel_rfl
structure InFn (M : Nat) (caps : Array Value) (w0 : World) (n : Nat) (inn : Nat → Bool) : Prop where
 enters : Enters Try.prog M
 ok : ∀ (i : Nat) (w' : World), i < n → Below w0.heap.size w0 w' → Calls Try.prog M (#[.int .i64 (i : Nat)] ++ caps) w' fun en w'' => en = .returned (.bool (inn i)) ∧ Below w'.heap.size w' w''
def rowsI (l : List (List Nat)) : List (List Int) := l.map (fun r => r.map (fun k : Nat => (k : Int)))
theorem rowsI_len (l : List (List Nat)) : (rowsI l).length = l.length := by simp [rowsI]
theorem rowsI_modify (l : List (List Nat)) (k x : Nat) : rowsI (l.modify k (· ++ [x])) = (rowsI l).modify k (· ++ [(x : Int)]) := by
 refine List.ext_getElem? fun j => ?_
 simp only [rowsI, List.getElem?_map, List.getElem?_modify]
 rcases l[j]? with _ | r
 ·rfl
 ·by_cases e : k = j
  ·simp [e]
  ·simp [e]
def placeI {q : Nat → Int} {inn : Nat → Bool} (k : Nat) : Int → Option Int := fun p => (place q inn k p).map (fun x : Nat => (x : Int))
section
variable {q : Nat → Int} {inn : Nat → Bool}
theorem rowOf_len (n : Nat) (p : Int) : (rowOf q inn n p).length ≤ n := by
 have := List.length_filter_le (fun k => inn k && decide (q k = p)) (List.range n)
 simpa [rowOf] using this
theorem firsts_len (n : Nat) : (firsts q inn n).length ≤ n := by
 have := List.length_filter_le (isF q inn) (List.range n)
 simpa [firsts] using this
theorem grp_len (n : Nat) : (grp q inn n).length ≤ n := by
 have := firsts_len (q := q) (inn := inn) n
 simpa [grp] using this
theorem rows_row_len (n j : Nat) : ((rowsI (grp q inn n)).getD j []).length ≤ n := by
 simp only [rowsI, grp, List.getD_eq_getElem?_getD, List.getElem?_map]
 rcases (firsts q inn n)[j]? with _ | i
 ·simp
 ·simpa using rowOf_len n (q i)
theorem g_out {n : Nat} (h : inn n = false) : rowsI (grp q inn (n + 1)) = rowsI (grp q inn n) ∧ placeI (q := q) (inn := inn) (n + 1) = placeI (q := q) (inn := inn) n := by
 obtain ⟨h1, h2⟩ := grp_out (q := q) h
 exact ⟨by rw [h1], by funext p; unfold placeI; rw [h2]⟩
theorem g_first {n : Nat} (h : inn n = true) (hp : placeI (q := q) (inn := inn) n (q n) = none) :
  rowsI (grp q inn (n + 1)) = rowsI (grp q inn n) ++ [[(n : Int)]] ∧ (fun p => if p = q n then some (((rowsI (grp q inn n)).length : Nat) : Int) else placeI (q := q) (inn := inn) n p) = placeI (q := q) (inn := inn) (n + 1) := by
 have hp' : place q inn n (q n) = none := by simpa [placeI] using hp
 obtain ⟨h1, h2⟩ := grp_first (q := q) h hp'
 refine ⟨by rw [h1]; simp [rowsI], ?_⟩
 funext p
 unfold placeI
 rw [h2]
 by_cases e : p = q n
 ·rw [if_pos e, if_pos e, rowsI_len]; rfl
 ·rw [if_neg e, if_neg e]
theorem g_more {n : Nat} {x : Int} (h : inn n = true) (hp : placeI (q := q) (inn := inn) n (q n) = some x) :
  ∃ c : Nat, x = (c : Int) ∧ c < (rowsI (grp q inn n)).length ∧ rowsI (grp q inn (n + 1)) = (rowsI (grp q inn n)).modify c (· ++ [(n : Int)]) ∧ placeI (q := q) (inn := inn) (n + 1) = placeI (q := q) (inn := inn) n := by
 obtain ⟨c, hc, rfl⟩ := Option.map_eq_some_iff.1 (show (place q inn n (q n)).map (fun x : Nat => (x : Int)) = some x from hp)
 obtain ⟨h1, h2⟩ := grp_more (q := q) h hc
 obtain ⟨h3, -⟩ := place_lt hc
 exact ⟨c, rfl, by rw [rowsI_len]; simpa [grp] using h3, by rw [h1, rowsI_modify], by funext p; unfold placeI; rw [h2]⟩
end
theorem modify_last (rows : List (List Int)) (x : Int) : (rows ++ [[]]).modify rows.length (· ++ [x]) = rows ++ [[x]] := by
 refine List.ext_getElem? fun j => ?_
 rw [List.getElem?_modify]
 by_cases e : rows.length = j
 ·subst e; simp
 ·by_cases h : j < rows.length
  ·rw [List.getElem?_append_left h, List.getElem?_append_left h]; simp [e]
  ·rw [List.getElem?_eq_none (by simp; omega), List.getElem?_eq_none (by simp; omega)]; rfl
theorem RowsM.var {w : World} {base : Nat} {ov : Value} {rows : List (List Int)} {vals : List Value} (h : RowsM w base ov rows vals) : ∃ a cap, ov = .slice a rows.length cap := by
 rcases h.out.2 with ⟨rfl, e⟩ | ⟨g, cap, cur, rfl, -⟩
 ·exact ⟨none, 0, by rw [e]⟩
 ·exact ⟨_, cap, rfl⟩
theorem MapI.grown {w w' : World} {b n sz : Nat} {f : Int → Option Int} (h : MapI w b n f sz) {base : Nat} {e : TypeId} {size : Nat} {v : Value} {m : Nat} {xs : List Value} (ho : w.ownsRow base e size v m xs) (hg : w.grownBy w' v.ownBlock) : MapI w' b n f sz := by
 refine h.kept hg ?_
 intro eq
 obtain ⟨D, ⟨es, c, h0, -⟩, -⟩ := h
 rcases ho.2 with ⟨rfl, -⟩ | ⟨g, cap, cur, rfl, -, hg2, -⟩
 ·simp [Value.ownBlock] at eq
 ·simp [Value.ownBlock] at eq
  subst eq
  rw [hg2] at h0
  simp at h0
theorem MapI.ne {w : World} {b n sz : Nat} {f : Int → Option Int} (h : MapI w b n f sz) {g : Nat} {c : Array Value} {t : TypeId} {fr : Nat × Nat} (hg : w.heap[g]? = some (.cells c t fr)) : b ≠ g := by
 rintro rfl
 obtain ⟨D, ⟨es, c, h0, -⟩, -⟩ := h
 rw [hg] at h0
 simp at h0
theorem RowsM.mapUpd {w w' : World} {base mb : Nat} {ov : Value} {rows : List (List Int)} {vals : List Value} (h : RowsM w base ov rows vals) {n sz : Nat} {f : Int → Option Int} (hm : MapI w mb n f sz) (hg : w.grownBy w' (some mb)) : RowsM w' base ov rows vals := by
 have hf : Frm (fun q => q = mb) w w' := (Frm.refl _ w).grown hg (fun k hk _ => by cases hk; rfl)
 have key : ∀ (e : TypeId) (v : Value) (m : Nat) (xs : List Value), w.ownsRow base e 1 v m xs → ∀ q, v.ownBlock = some q → ¬ q = mb := fun e v m xs ho q hq e2 => by
  subst e2
  rcases ho.2 with ⟨rfl, -⟩ | ⟨g, cap, cur, rfl, -, hg2, -⟩
  ·simp [Value.ownBlock] at hq
  ·simp [Value.ownBlock] at hq
   subst hq
   exact hm.ne hg2 rfl
 exact h.frm hf (key _ _ _ _ h.out) (fun j hj => key _ _ _ _ (h.inn j hj))
structure GrS (w wr : World) (mb m sz : Nat) (q : Nat → Int) (inn : Nat → Bool) (k : Nat) (ov : Value) (rows : List (List Int)) (vals : List Value) : Prop where
 hm : m ≤ k
 map : MapI wr mb m (placeI (q := q) (inn := inn) k) sz
 rows : RowsM wr w.heap.size ov rows vals
 below : Below w.heap.size w wr
theorem MapI.neOwn {w : World} {b n sz : Nat} {f : Int → Option Int} (h : MapI w b n f sz) {base : Nat} {e : TypeId} {size : Nat} {v : Value} {m g : Nat} {xs : List Value} (ho : w.ownsRow base e size v m xs) (hg : v.ownBlock = some g) : b ≠ g := by
 rcases ho.2 with ⟨rfl, -⟩ | ⟨g', cap, cur, rfl, -, hg2, -⟩
 ·simp [Value.ownBlock] at hg
 ·simp [Value.ownBlock] at hg
  subst hg
  exact h.ne hg2
theorem Below.own {w wr w' : World} (h : Below w.heap.size w wr) {e : TypeId} {size : Nat} {v : Value} {m : Nat} {xs : List Value} {o : Obj} (ho : wr.ownsRow w.heap.size e size v m xs) (hg : (wr.alloc o).grownBy w' v.ownBlock) : Below w.heap.size w w' :=
 (h.alloc h.size o).grown hg (by have := h.size; simp; omega) (fun k hk => (ho.lt k hk).1)
theorem MapI.more {w w' : World} {b n sz : Nat} {f : Int → Option Int} (h : MapI w b n f sz) (hb : Below w.heap.size w w') : MapI w' b n f sz := h.heap (hb.block b h.lt)
theorem GrS.skip {w wr w' : World} {mb m sz k : Nat} {q : Nat → Int} {inn : Nat → Bool} {ov : Value} {rows : List (List Int)} {vals : List Value} (h : GrS w wr mb m sz q inn k ov rows vals) (hb : Below wr.heap.size wr w')
  (e : placeI (q := q) (inn := inn) (k + 1) = placeI (q := q) (inn := inn) k) : GrS w w' mb m sz q inn (k + 1) ov rows vals :=
 ⟨Nat.le_succ_of_le h.hm, by rw [e]; exact h.map.more hb, h.rows.more hb, h.below.trans (hb.mono h.below.size)⟩
theorem gr_first {w2 w3 : World} {base : Nat} {ov : Value} {rows : List (List Int)} {vals : List Value} {rl g cap : Nat} {o : Obj} (h : RowsM w2 base ov rows vals) (hrl : rows.length = rl) (hg : (w2.alloc o).grownBy w3 ov.ownBlock) (hor : ov.ownBlock = some g ∨ g = w2.heap.size + 1)
  (hown : w3.ownsRow base 22 1 (.slice (some ⟨g, 0, none⟩) (rl + 1) cap) (rl + 1) (vals ++ [.slice none 0 0])) :
  w3.cell? ⟨g, rl, none⟩ = some (.slice none 0 0) ∧ RowsM w3 base (.slice (some ⟨g, 0, none⟩) (rl + 1) cap) (rows ++ [[]]) (vals ++ [.slice none 0 0]) := by
 subst hrl
 have hr := (h.more (balloc w2 o)).push (nv := .slice none 0 0) (row := []) hg (by simpa using hor) hown (World.ownsRow_nil _ _ _ _) (fun q hq => by simp [Value.ownBlock] at hq) (fun j _ q hq => by simp [Value.ownBlock] at hq)
 refine ⟨?_, hr⟩
 obtain ⟨b, e1, -, e2⟩ := ownsRow_cell hr.out (j := rows.length) (by simp)
 obtain rfl : g = b := by simpa [Value.ownBlock] using e1
 rw [e2, getD_snoc _ _ _ _ (by rw [h.len]; exact Nat.le_refl _), if_neg (by rw [h.len]; omega)]
theorem gr_first2 {w3 w4 : World} {base : Nat} {rows : List (List Int)} {vals : List Value} {rl g cap g2 cap2 : Nat} {o : Obj} {x : Int} (h : RowsM w3 base (.slice (some ⟨g, 0, none⟩) (rl + 1) cap) (rows ++ [[]]) (vals ++ [.slice none 0 0])) (hrl : rows.length = rl) (hv : vals.length = rl)
  (hg : (w3.alloc o).grownBy w4 (Value.slice none 0 0).ownBlock) (hor : (Value.slice none 0 0).ownBlock = some g2 ∨ g2 = w3.heap.size + 1)
  (hown : w4.ownsRow base 3 1 (.slice (some ⟨g2, 0, none⟩) (0 + 1) cap2) (0 + 1) ([] ++ [.int .i64 x])) :
  (∃ u, w4.cell? ⟨g, rl, none⟩ = some u) ∧ w4.frozen? ⟨g, rl, none⟩ = false ∧ base ≤ g ∧ ∃ vals', RowsM (w4.setCell ⟨g, rl, none⟩ (.slice (some ⟨g2, 0, none⟩) (0 + 1) cap2)) base (.slice (some ⟨g, 0, none⟩) (rl + 1) cap) (rows ++ [[x]]) vals' := by
 subst hrl
 have e1 : (vals ++ [Value.slice none 0 0]).getD rows.length undef = .slice none 0 0 := by rw [← hv]; simp
 have e2 : (rows ++ [[]]).getD rows.length [] = ([] : List Int) := by simp
 obtain ⟨ob, oc, e, hc, hf, hb, hr⟩ := (h.more (balloc w3 o)).grow (k := rows.length) (by simp) (m := 0) (x := x) (g := g2) (cap := cap2) (by rw [e2]; rfl) (by rw [e1]; exact hg) (by rw [e1]; simpa using hor) (by rw [e2]; exact hown)
 simp only [Value.slice.injEq, Option.some.injEq, Addr.mk.injEq, and_true] at e
 obtain ⟨rfl, -, rfl⟩ := e
 rw [modify_last] at hr
 exact ⟨hc, hf, hb, _, hr⟩
theorem gr_cell {w1 : World} {base : Nat} {ov : Value} {rows : List (List Int)} {vals : List Value} {rl c : Nat} (h : RowsM w1 base ov rows vals) (hrl : rows.length = rl) (hc : c < rl) :
  ∃ ob oc, ov = .slice (some ⟨ob, 0, none⟩) rl oc ∧ w1.cell? ⟨ob, c, none⟩ = some (vals.getD c undef) ∧ w1.ownsRow base 3 1 (vals.getD c undef) (rows.getD c []).length ((rows.getD c []).map (Value.int .i64)) := by
 subst hrl
 obtain ⟨b, e1, ⟨cap, e3⟩, e2⟩ := ownsRow_cell h.out hc
 exact ⟨b, cap, e3, e2, h.inn c hc⟩
theorem gr_more {w1 w4 : World} {base : Nat} {rows : List (List Int)} {vals : List Value} {rl c ob oc m g2 cap2 : Nat} {iv : Value} {o : Obj} {x : Int} (h : RowsM w1 base (.slice (some ⟨ob, 0, none⟩) rl oc) rows vals) (hrl : rows.length = rl) (hc : c < rl) (hiv : vals.getD c undef = iv) (hm : (rows.getD c []).length = m)
  (hg : (w1.alloc o).grownBy w4 iv.ownBlock) (hor : iv.ownBlock = some g2 ∨ g2 = w1.heap.size + 1)
  (hown : w4.ownsRow base 3 1 (.slice (some ⟨g2, 0, none⟩) (m + 1) cap2) (m + 1) ((rows.getD c []).map (Value.int .i64) ++ [.int .i64 x])) :
  (∃ u, w4.cell? ⟨ob, c, none⟩ = some u) ∧ w4.frozen? ⟨ob, c, none⟩ = false ∧ base ≤ ob ∧ ∃ vals', RowsM (w4.setCell ⟨ob, c, none⟩ (.slice (some ⟨g2, 0, none⟩) (m + 1) cap2)) base (.slice (some ⟨ob, 0, none⟩) rl oc) (rows.modify c (· ++ [x])) vals' := by
 subst hrl hiv
 obtain ⟨ob', oc', e, hcc, hf, hb, hr⟩ := (h.more (balloc w1 o)).grow hc (x := x) hm hg (by simpa using hor) hown
 simp only [Value.slice.injEq, Option.some.injEq, Addr.mk.injEq, and_true] at e
 obtain ⟨rfl, -, rfl⟩ := e
 exact ⟨hcc, hf, hb, _, hr⟩
set_option maxRecDepth 100000 in
set_option maxHeartbeats 8000000 in
theorem groups_new (M : Nat) (caps : Array Value) (inn : Nat → Bool) (v : Value) (ps : List Int) (w : World) (h : IntsAt w v ps) (hps : ∀ x ∈ ps, (Lit.int .i64 x).wf = true) (hn : ps.length ≤ 1000000) (T : InFn M caps w ps.length inn) :
  Calls Try.prog 52 #[v, .func (.func M) #[] caps] w fun e w' => ∃ rv, e = .returned rv ∧ (∃ vals, RowsM w' w.heap.size rv (rowsI (grp (fun k => ps.getD k 0) inn ps.length)) vals) ∧ Below w.heap.size w w' := by
 obtain ⟨i0, hi0, hz0, hz1, hz2⟩ := info_parts (Try.info3)
 obtain ⟨j0, hj0, hw0, hw1, hw2⟩ := info_parts Try.info22
 obtain ⟨pa, pc, rfl, hp⟩ := h
 have hE' : ∀ (args : Array Value) (w : World), (callFunc M args).run Try.prog w = .ok (.enter M args) w := T.enters
 have hmm := @run_makeMap Try.prog
 have HT := Lib.hid T.ok
 have HP := Lib.hid hp
 have HPS := Lib.hid hps
 have G0 := Lib.hid (show GrS w (w.alloc (.map #[] 0)) w.heap.size 0 0 (fun k => ps.getD k 0) inn 0 (.slice none 0 0) (rowsI (grp (fun k => ps.getD k 0) inn 0)) [] from ⟨Nat.le_refl _, MapI.made w, rowsM_nil _ _, balloc _ _⟩)
 clear T hp hps
 obtain ⟨n, hnn⟩ : ∃ n, ps.length = n := ⟨_, rfl⟩
 rw [hnn] at HT HP hn ⊢
 have HNN := Lib.hid hnn
 clear hnn
 go_enter Try.func52, Try.ntmps52
 go_wp2_with fail
 go_loopg [5, 14] n (fun fu ov c wr => ∃ (k m sz : Nat) (rows : List (List Int)) (vals : List Value), k + fu = n ∧ c = .int .i64 k ∧ Hid (rowsI (grp (fun k => ps.getD k 0) inn k) = rows) ∧ Hid (GrS w wr w.heap.size m sz (fun k => ps.getD k 0) inn k ov rows vals))
 case atStart => exact ⟨0, 0, 0, _, _, by omega, rfl, Lib.hid rfl, G0⟩
 case round =>
  clear G0
  obtain ⟨k, m, sz, rows, vals, hk, rfl, HR, HG⟩ := hrel
  obtain ⟨oa, oc, rfl⟩ := HG.out.rows.var
  by_cases hlt : k < n
  ·have i1 : (k : Int) < (n : Int) := by omega
   obtain ⟨pb, po, rfl, pcell⟩ := HP.out k hlt
   have pcell := bkeep HG.out.below pcell
   have HW : Hid ((Lit.int .i64 (ps.getD k 0)).wf = true) := Lib.hid (HPS.out _ (getD_mem (by have := HNN.out; omega)))
   have HC := Lib.hid (HT.out k wr hlt HG.out.below)
   cases hin : inn k
   ·rw [hin] at HC
    have HS := Lib.hid (g_out (q := fun k => ps.getD k 0) hin)
    generalize ps.getD k 0 = p at *
    go_wp2_with (go_at_fn M; refine HC.out.mono ?_; rintro en w1 ⟨rfl, hb1⟩; have HB1 := Lib.hid hb1; clear hb1)
    go_roundg (n - (k + 1))
    case measure => omega
    case rel => exact ⟨k + 1, m, sz, rows, vals, by omega, by simp, Lib.hid (by rw [HS.out.1]; exact HR.out), Lib.hid (HG.out.skip HB1.out HS.out.2)⟩
   ·rw [hin] at HC
    obtain ⟨rl, hrl⟩ : ∃ rl, rows.length = rl := ⟨_, rfl⟩
    have HRL := Lib.hid hrl
    have hrk : rl ≤ k := by rw [← hrl, ← HR.out, rowsI_len]; exact grp_len k
    have hvl := HG.out.rows.len
    rw [hrl] at hvl
    have HVL := Lib.hid hvl
    have hmk := HG.out.hm
    rw [hrl] at HG ⊢
    rcases hpl : placeI (q := fun k => ps.getD k 0) (inn := inn) k (ps.getD k 0) with _ | x
    ·have HS := Lib.hid (g_first (q := fun k => ps.getD k 0) hin hpl)
     have HPL := Lib.hid hpl
     have HWL : Hid ((Lit.int .i64 ((rl : Nat) : Int)).wf = true) := Lib.hid (WalkArith.wf_i64 (by omega))
     rw [HR.out, hrl] at HS
     clear hpl hvl
     generalize ps.getD k 0 = p at *
     have i2 : (rl : Int) < ((rl + 1 : Nat) : Int) := by omega
     have i3 : (rl : Int) < (rl : Int) + 1 := by omega
     go_wp2_with (first
      | (go_at_fn M; refine HC.out.mono ?_; rintro en w1 ⟨rfl, hb1⟩; have HM1 := Lib.hid (HG.out.map.more hb1); have HR1 := Lib.hid (HG.out.rows.more hb1); have HB1 := Lib.hid (HG.out.below.trans (hb1.mono HG.out.below.size)); clear hb1)
      | (at_lookup; refine wp_look_ok HM1.out rfl rfl rfl rfl HW.out ?_; rw [HPL.out])
      | (at_mapUpdate; refine wp_mput HM1.out (by unfold maxLen; omega) rfl rfl rfl rfl rfl HW.out HWL.out ?_; intro w2 hm2 hg2; have HM2 := Lib.hid hm2; have HR2 := Lib.hid (HR1.out.mapUpd HM1.out hg2); have HB2 := Lib.hid (HB1.out.grown hg2 HB1.out.size (fun k hk => by cases hk; exact Nat.le_refl _)); clear hm2 hg2)
      | (at_builtin; refine wpList_append_lies (w2.alloc (.cells #[.slice none 0 0] 22)) rfl (.tmp 36) (.tmp 37) 49 rfl w.heap.size 22 j0 (.slice none 0 0) 1 24 Try.underlying49 hj0 hw0 hw1 hw2 rfl (by decide) (.slice oa rl oc) rl vals rfl (by have := HR2.out.out.alloc (.cells #[.slice none 0 0] 22); rw [HRL.out] at this; exact this) ⟨w2.heap.size, 0, none⟩ 1 1 [.slice none 0 0] rfl rfl (World.news_of_block (heap_alloc_new _ _)) (by simp [Value.oneCell']) (by omega) (by unfold maxLen; omega) (by omega) (by have := HB2.out.size; simp; omega) (w2.heap.size + 1) (by simp) ?_; intro g3 cap3 w3 hown3 hgr3 hor3 hlt3; obtain ⟨q0, q1⟩ := gr_first HR2.out HRL.out hgr3 hor3 hown3; have HR3 := Lib.hid q1; have HM3 := Lib.hid ((HM2.out.more (balloc w2 (.cells #[.slice none 0 0] 22))).grown (HR2.out.out.alloc _) hgr3); have HB3 := Lib.hid (Below.own HB2.out HR2.out.out hgr3); clear q1 hown3 hgr3 hor3)
      | (at_builtin; refine wpList_append_lies (w3.alloc (.cells #[.int .i64 k] 3)) rfl (.tmp 44) (.tmp 46) 22 rfl w.heap.size 3 i0 (.int .i64 0) 1 8 Try.underlying22 hi0 hz0 hz1 hz2 rfl (by decide) (.slice none 0 0) 0 [] rfl (World.ownsRow_nil _ _ _ _) ⟨w3.heap.size, 0, none⟩ 1 1 [.int .i64 k] rfl rfl (World.news_of_block (heap_alloc_new _ _)) (by simp [Value.oneCell']) (by omega) (by unfold maxLen; omega) (by omega) (by have := HB3.out.size; simp; omega) (w3.heap.size + 1) (by simp) ?_; intro g4 cap4 w4 hown4 hgr4 hor4 hlt4; obtain ⟨⟨u, qu⟩, qf, qb, vals2, qr⟩ := gr_first2 HR3.out HRL.out HVL.out hgr4 hor4 hown4; have HR4 := Lib.hid qr; have HB4 := Lib.hid (Below.own (v := .slice none 0 0) (e := 3) (size := 1) HB3.out (World.ownsRow_nil _ _ _ _) hgr4); have HM4 := Lib.hid (MapI.setCell (MapI.grown (MapI.more HM3.out (balloc w3 (.cells #[.int .i64 k] 3))) (World.ownsRow_nil _ 0 3 1) hgr4) (a := ⟨g3, rl, none⟩) (HM3.out.neOwn HR3.out.out rfl) (.slice (some ⟨g4, 0, none⟩) (0 + 1) cap4)); clear qr hown4 hgr4 hor4))
     go_roundg (n - (k + 1))
     case measure => omega
     case rel =>
      refine ⟨k + 1, m + 1, _, rows ++ [[(k : Int)]], vals2, by omega, by simp, Lib.hid HS.out.1, Lib.hid ⟨by omega, by rw [← HS.out.2]; exact HM4.out, ?_, HB4.out.setCell (p := ⟨g3, rl, none⟩) qb _⟩⟩
      have := HR4.out
      simpa using this
    ·obtain ⟨c, rfl, hcl, hS1, hS2⟩ := g_more (q := fun k => ps.getD k 0) hin hpl
     have HS := Lib.hid (And.intro hS1 hS2)
     rw [HR.out] at HS
     rw [HR.out, hrl] at hcl
     have HPL := Lib.hid hpl
     have hrw : (rows.getD c []).length ≤ k := by rw [← HR.out]; exact rows_row_len k c
     clear hpl hvl hS1 hS2
     generalize ps.getD k 0 = p at *
     obtain ⟨rw', hrw'⟩ : ∃ z, (rows.getD c []).length = z := ⟨_, rfl⟩
     have HRW := Lib.hid hrw'
     rw [hrw'] at hrw
     obtain ⟨iv, hiv⟩ : ∃ z, vals.getD c undef = z := ⟨_, rfl⟩
     have HIV := Lib.hid hiv
     obtain ⟨ob, oc', e0, -, -⟩ := gr_cell HG.out.rows hrl hcl
     simp only [Value.slice.injEq, true_and] at e0
     obtain ⟨rfl, rfl⟩ := e0
     have i2 : (c : Int) < (rl : Int) := by omega
     clear hrl hrw' hiv
     go_wp2_with (first
      | (go_at_fn M; refine HC.out.mono ?_; rintro en w1 ⟨rfl, hb1⟩; have HM1 := Lib.hid (HG.out.map.more hb1); have hr1 := HG.out.rows.more hb1; have HR1 := Lib.hid hr1; have HB1 := Lib.hid (HG.out.below.trans (hb1.mono HG.out.below.size)); obtain ⟨b1, c1, e1, hc1, ho1⟩ := gr_cell hr1 HRL.out hcl; (have e2 : ob = b1 := (by simp at e1; exact e1.1)); subst e2; rw [HIV.out] at hc1 ho1; rw [HRW.out] at ho1; have HO1 := Lib.hid ho1; clear hb1 hr1 ho1 e1)
      | (at_lookup; refine wp_look_ok HM1.out rfl rfl rfl rfl HW.out ?_; rw [HPL.out])
      | (at_builtin; refine wpList_append_lies (w1.alloc (.cells #[.int .i64 k] 3)) rfl (.tmp 44) (.tmp 46) 22 rfl w.heap.size 3 i0 (.int .i64 0) 1 8 Try.underlying22 hi0 hz0 hz1 hz2 rfl (by decide) iv rw' ((rows.getD c []).map (Value.int .i64)) rfl (HO1.out.alloc _) ⟨w1.heap.size, 0, none⟩ 1 1 [.int .i64 k] rfl rfl (World.news_of_block (heap_alloc_new _ _)) (by simp [Value.oneCell']) (by omega) (by unfold maxLen; omega) (by omega) (by have := HB1.out.size; simp; omega) (w1.heap.size + 1) (by simp) ?_; intro g4 cap4 w4 hown4 hgr4 hor4 hlt4; obtain ⟨⟨u, qu⟩, qf, qb, vals2, qr⟩ := gr_more HR1.out HRL.out hcl HIV.out HRW.out hgr4 hor4 hown4; have HR4 := Lib.hid qr; have HB4 := Lib.hid (Below.own HB1.out HO1.out hgr4); have HM4 := Lib.hid (MapI.setCell (MapI.grown (MapI.more HM1.out (balloc w1 (.cells #[.int .i64 k] 3))) (HO1.out.alloc _) hgr4) (a := ⟨ob, c, none⟩) (HM1.out.neOwn HR1.out.out rfl) (.slice (some ⟨g4, 0, none⟩) (rw' + 1) cap4)); clear qr hown4 hgr4 hor4))
     go_roundg (n - (k + 1))
     case measure => omega
     case rel =>
      refine ⟨k + 1, m, sz, _, vals2, by omega, by simp, Lib.hid HS.out.1, Lib.hid ⟨by omega, by rw [HS.out.2]; exact HM4.out, ?_, HB4.out.setCell (p := ⟨ob, c, none⟩) qb _⟩⟩
      have := HR4.out
      simpa using this
  ·obtain rfl : k = n := by omega
   go_wp2_with fail
   go_ret
   exact ⟨_, rfl, ⟨vals, by rw [HR.out]; exact HG.out.rows⟩, HG.out.below⟩
theorem own_base {w : World} {base base' : Nat} {e : TypeId} {size : Nat} {v : Value} {n : Nat} {xs : List Value} (h : w.ownsRow base e size v n xs) (hb : base' ≤ base) : w.ownsRow base' e size v n xs := by
 obtain ⟨l, r⟩ := h
 refine ⟨l, ?_⟩
 rcases r with r | ⟨g, cap, cur, e, hbg, r⟩
 ·exact .inl r
 ·exact .inr ⟨g, cap, cur, e, by omega, r⟩
theorem RowsM.base {w : World} {base base' : Nat} {ov : Value} {rows : List (List Int)} {vals : List Value} (h : RowsM w base ov rows vals) (hb : base' ≤ base) : RowsM w base' ov rows vals :=
 ⟨h.len, own_base h.out hb, fun j hj => own_base (h.inn j hj) hb, h.apart, h.offO⟩
end Go.Proofs.Ytlhpjfnfemebdaa
namespace Go.Proofs.Ytlhpjfnfemebdaa
open Go.RowKit
def grpI (ps : List Int) (inn : Nat → Bool) : List (List Int) := rowsI (grp (fun k => ps.getD k 0) inn ps.length)
theorem partsI_len (g : Gr) : (partsI g).length = nodesN g := by simp [partsI, partsL_len]
theorem partsI_get {g : Gr} {i : Nat} (h : i < nodesN g) : (partsI g).getD i 0 = ((partN g i : Nat) : Int) := by
 rw [← partsL_get h]
 have hl : i < (partsL g).length := by rw [partsL_len]; exact h
 simp [partsI, hl]
theorem partsI_wf (g : Gr) (hn : nodesN g ≤ 100000) : ∀ x ∈ partsI g, (Lit.int .i64 x).wf = true := by
 intro x hx
 obtain ⟨j, hj, e⟩ := List.getElem_of_mem hx
 rw [partsI_len] at hj
 have e2 := partsI_get hj
 rw [List.getD_eq_getElem?_getD, List.getElem?_eq_getElem (by rw [partsI_len]; exact hj)] at e2
 simp only [Option.getD_some] at e2
 rw [e2] at e
 have := partN_lt hj
 exact WalkArith.wf_i64 (by omega)
set_option maxRecDepth 100000 in
theorem inn_all (w0 : World) (n : Nat) : InFn 54 #[] w0 n (fun _ => true) := by
 refine ⟨enters_of Try.func54 (by kernel_rfl) rfl, ?_⟩
 intro i w _ _
 show Calls Try.prog 54 #[.int .i64 (i : Nat)] w _
 go_enter Try.func54, Try.ntmps54
 go_wp2_with fail
 go_ret
 exact ⟨rfl, Below.refl _ _⟩
def RowsBackN (w : World) (rows : List (List Int)) (e : Ending) (w' : World) : Prop := ∃ v, e = .returned v ∧ (∃ vals, RowsM w' w.heap.size v rows vals) ∧ Below w.heap.size w w'
def RowsBack (w : World) (rows : List (List Int)) (e : Ending) (w' : World) : Prop := ∃ v, e = .returned v ∧ RowsAt w' v rows ∧ Below w.heap.size w w'
noncomputable def groupsI (g : Gr) : List (List Int) := grpI (partsI g) (fun _ => true)
set_option maxRecDepth 100000 in
set_option maxHeartbeats 4000000 in
theorem groupsF_new (v : Value) (g : Gr) (w : World) (h : GraphAt w v g) (hn : nodesN g ≤ 100000) : Calls Try.prog 32 #[v] w (RowsBackN w (groupsI g)) := by
 obtain ⟨sa, aa, ta, sc, ac, tc, rfl, -⟩ := h.var
 have hb := balloc w (.cells #[.slice sa g.S.length sc, .slice aa g.A.length ac, .slice ta g.T.length tc] 30)
 have PP := Lib.hid (parts_ok _ g _ (h.below hb) hn)
 have HB := Lib.hid hb
 have X0 := Lib.hid (heap_alloc_new w (.cells #[.slice sa g.S.length sc, .slice aa g.A.length ac, .slice ta g.T.length tc] 30))
 have HN := Lib.hid hn
 clear h hb
 go_enter Try.func32, Try.ntmps32
 go_wp2_with (first
  | (go_at_call 53; refine PP.out.mono ?_; rintro e w1 ⟨B, rfl, hB, hb1⟩; have HI := Lib.hid (intsAt_block hB (partsI_len g).symm (nodesN g)); have HB1 := Lib.hid (HB.out.trans (hb1.mono HB.out.size)); clear hB hb1)
  | (go_at_call 52; refine (groups_new 54 #[] (fun _ => true) _ (partsI g) w1 HI.out (partsI_wf g HN.out) (by rw [partsI_len]; have := HN.out; omega) (inn_all _ _)).mono ?_; rintro e w2 ⟨rv, rfl, ⟨vals, hr⟩, hb2⟩; have HR := Lib.hid (hr.base (base' := w.heap.size) HB1.out.size); have HB2 := Lib.hid (HB1.out.trans (hb2.mono HB1.out.size)); clear hr hb2))
 go_ret
 exact ⟨_, rfl, ⟨vals, HR.out⟩, HB2.out⟩
end Go.Proofs.Ytlhpjfnfemebdaa
