/-
  ref17.groups: the walk. Groups and Within answer as the document says: plain.
-/
import Derived.Test.YtnlaonppgebpoaaGroupFns
import Derived.Test.YtnlaonppgebpoaaRefPartsW
import Derived.Test.YtnlaonppgebpoaaRKeep
namespace Go.Proofs.Ytnlaonppgebpoaa
open Go.RowKit

/-- the document's rows -/
def refR (ps : List Int) (inn : Nat → Bool) (p : Nat) : List (List Int) := rowsI (((List.range p).map (fun p : Nat => rowOf (fun k => ps.getD k 0) inn ps.length (p : Int))).filter (fun r => !r.isEmpty))
def refI (ps : List Int) (inn : Nat → Bool) : List (List Int) := refR ps inn ps.length
def rowI (ps : List Int) (inn : Nat → Bool) (i : Nat) (p : Int) : List Int := (rowOf (fun k => ps.getD k 0) inn i p).map (fun k : Nat => (k : Int))
theorem refR_succ (ps : List Int) (inn : Nat → Bool) (p : Nat) : refR ps inn (p + 1) = if (rowI ps inn ps.length (p : Int)).length = 0 then refR ps inn p else refR ps inn p ++ [rowI ps inn ps.length (p : Int)] := by
  unfold refR rowI
  rw [List.range_succ, List.map_append, List.filter_append]
  simp only [List.map_cons, List.map_nil, List.filter_cons, List.filter_nil, List.length_map]
  cases h : rowOf (fun k => ps.getD k 0) inn ps.length (p : Int)
  · simp
  · simp [rowsI]
theorem refR_len (ps : List Int) (inn : Nat → Bool) (p : Nat) : (refR ps inn p).length ≤ p := by
  unfold refR
  rw [rowsI_len]
  refine Nat.le_trans (List.length_filter_le _ _) (by simp)
theorem rowI_succ (ps : List Int) (inn : Nat → Bool) (i : Nat) (p : Int) : rowI ps inn (i + 1) p = if ps.getD i 0 = p ∧ inn i = true then rowI ps inn i p ++ [(i : Int)] else rowI ps inn i p := by
  unfold rowI
  rw [rowOf_succ]
  by_cases h1 : ps.getD i 0 = p
  · cases h2 : inn i
    · simp
    · simp only [decide_eq_true h1, Bool.and_self, if_true]
      rw [if_pos (show ps.getD i 0 = p ∧ True from ⟨h1, trivial⟩)]
      simp
  · have : ¬ (ps.getD i 0 = p ∧ inn i = true) := fun h => h1 h.1
    rw [if_neg this]
    simp only [decide_eq_false h1, Bool.and_false]
    simp
theorem rowI_len (ps : List Int) (inn : Nat → Bool) (i : Nat) (p : Int) : (rowI ps inn i p).length ≤ i := by
  unfold rowI
  rw [List.length_map]
  exact rowOf_len i p
theorem own_var {w : World} {base : Nat} {e : TypeId} {size : Nat} {v : Value} {n : Nat} {xs : List Value} (h : w.ownsRow base e size v n xs) : ∃ a c, v = .slice a n c := by
  rcases h.2 with ⟨rfl, e⟩ | ⟨g, cap, cur, rfl, -⟩
  · exact ⟨none, 0, by rw [e]⟩
  · exact ⟨_, cap, rfl⟩
theorem RowsM.pushNew {wr1 wr w' : World} {base : Nat} {ov nv : Value} {rows : List (List Int)} {vals : List Value} {row : List Int} {rl g cap : Nat} {o : Obj} (h : RowsM wr1 base ov rows vals) (hrl : rows.length = rl) (hbase : base ≤ wr1.heap.size) (hb : Below wr1.heap.size wr1 wr)
    (ho : wr.ownsRow wr1.heap.size 3 1 nv row.length (row.map (Value.int .i64))) (hg : (wr.alloc o).grownBy w' ov.ownBlock) (hor : ov.ownBlock = some g ∨ g = wr.heap.size + 1)
    (hown : w'.ownsRow base 24 1 (.slice (some ⟨g, 0, none⟩) (rl + 1) cap) (rl + 1) (vals ++ [nv])) : RowsM w' base (.slice (some ⟨g, 0, none⟩) (rl + 1) cap) (rows ++ [row]) (vals ++ [nv]) := by
  subst hrl
  refine ((h.more (hb.trans ((balloc wr o).mono hb.size))).push hg (by simpa using hor) hown (own_base (ho.alloc o) hbase) (fun q hq e => ?_) (fun j hj q hq e => ?_))
  · have h1 := (ho.lt q hq).1
    have h2 := (h.out.lt q e).2
    omega
  · have h1 := (ho.lt q hq).1
    have h2 := ((h.inn j hj).lt q e).2
    omega

set_option maxRecDepth 100000 in
set_option maxHeartbeats 8000000 in
theorem rgroups_ok (v u : Value) (ps : List Int) (l : List Bool) (w : World) (h : IntsAt w v ps) (hu : BoolsAt w u l) (hn : ps.length ≤ 1000000) (hl : l.length ≤ 1000000) :
    Calls Try.prog 86 #[v, u] w (RowsBack w (refI ps (fun i => l.getD i false))) := by
  obtain ⟨i0, hi0, hz0, hz1, hz2⟩ := info_parts (Try.info3)
  obtain ⟨j0, hj0, hw0, hw1, hw2⟩ := info_parts Try.info24
  obtain ⟨pa, pc, rfl, hp⟩ := h
  obtain ⟨ba, bc, rfl, hb⟩ := hu
  have HP := Lib.hid hp
  have HB := Lib.hid hb
  have RS := Lib.hid (fun p => refR_succ ps (fun i => l.getD i false) p)
  have RL := Lib.hid (fun p => refR_len ps (fun i => l.getD i false) p)
  have WS := Lib.hid (fun i p => rowI_succ ps (fun i => l.getD i false) i p)
  have WL := Lib.hid (fun i p => rowI_len ps (fun i => l.getD i false) i p)
  have W0 : Hid (∀ p, rowI ps (fun i => l.getD i false) 0 p = []) := Lib.hid (fun p => rfl)
  have R0 : Hid (refR ps (fun i => l.getD i false) 0 = []) := Lib.hid rfl
  unfold refI
  clear hp hb
  generalize refR ps (fun i => l.getD i false) = RR at *
  generalize rowI ps (fun i => l.getD i false) = WW at *
  obtain ⟨n, hnn⟩ : ∃ n, ps.length = n := ⟨_, rfl⟩
  rw [hnn] at HP hn RS ⊢
  clear hnn
  go_enter Try.func86, Try.ntmps86
  go_wp2_with fail
  go_loopg [5, 6] n (fun fu ov c wr => ∃ (p : Nat) (vals : List Value), p + fu = n ∧ c = .int .i64 p ∧ Hid (Below w.heap.size w wr) ∧ Hid (RowsM wr w.heap.size ov (RR p) vals))
  case atStart => exact ⟨0, [], by omega, rfl, Lib.hid (Below.refl _ _), Lib.hid (by rw [R0.out]; exact rowsM_nil _ _)⟩
  case round =>
    obtain ⟨p, vals, hpf, rfl, HBW, HM⟩ := hrel
    obtain ⟨oa, oc, rfl⟩ := HM.out.var
    by_cases hlt : p < n
    · have i1 : (p : Int) < (n : Int) := by omega
      obtain ⟨wr1, rfl⟩ : ∃ z : World, z = wr := ⟨_, rfl⟩
      go_wp2_with fail
      go_loopg [7, 8] n (fun fu lv c wr => ∃ i : Nat, i + fu = n ∧ c = .int .i64 i ∧ Hid (Below wr1.heap.size wr1 wr) ∧ Hid (wr.ownsRow wr1.heap.size 3 1 lv (WW i (p : Int)).length ((WW i (p : Int)).map (Value.int .i64))))
      case atStart => exact ⟨0, by omega, rfl, Lib.hid (Below.refl _ _), Lib.hid (by rw [W0.out]; exact World.ownsRow_nil _ _ _ _)⟩
      case round =>
        obtain ⟨i, hif, rfl, HB2, HO⟩ := hrel
        by_cases hlt2 : i < n
        · have j1 : (i : Int) < (n : Int) := by omega
          obtain ⟨b1, o1, rfl, d1⟩ := HP.out i hlt2
          have y1 := bkeep (HBW.out.trans (HB2.out.mono HBW.out.size)) d1
          have hws := WS.out i (p : Int)
          have hwl := WL.out i (p : Int)
          clear d1
          generalize ps.getD i 0 = x at *
          obtain ⟨row, hrow⟩ : ∃ r, WW i (p : Int) = r := ⟨_, rfl⟩
          rw [hrow] at hws hwl HO
          have HWS := Lib.hid hws
          clear hws hrow
          by_cases hx : x = (p : Int)
          · by_cases hil : i < l.length
            · have j2 : (i : Int) < (l.length : Int) := by omega
              obtain ⟨b2, o2, rfl, d2⟩ := HB.out i hil
              have y2 := bkeep (HBW.out.trans (HB2.out.mono HBW.out.size)) d2
              clear d2
              cases hb : l.getD i false
              · rw [hb] at y2 HWS
                have E : Hid (WW (i + 1) (p : Int) = row) := Lib.hid (by rw [HWS.out, if_neg (by simp)])
                go_wp2_with fail
                go_roundg (n - (i + 1))
                case measure => omega
                case rel => exact ⟨i + 1, by omega, by simp, HB2, Lib.hid (by rw [E.out]; exact HO.out)⟩
              · rw [hb] at y2 HWS
                have E : Hid (WW (i + 1) (p : Int) = row ++ [(i : Int)]) := Lib.hid (by rw [HWS.out, if_pos ⟨hx, rfl⟩])
                go_wp2_with (at_builtin; refine wpList_append_lies (wr.alloc (.cells #[.int .i64 i] 3)) rfl (.tmp 39) (.tmp 41) 24 rfl wr1.heap.size 3 i0 (.int .i64 0) 1 8 Try.underlying24 hi0 hz0 hz1 hz2 rfl (by decide) u7 row.length _ rfl (HO.out.alloc _) ⟨wr.heap.size, 0, none⟩ 1 1 [.int .i64 i] rfl rfl (World.news_of_block (heap_alloc_new _ _)) (by simp [Value.oneCell']) (by omega) (by unfold maxLen; omega) (by omega) (by have := HB2.out.size; simp; omega) (wr.heap.size + 1) (by simp) ?_; intro g3 cap3 w3 hown3 hgr3 hor3 hlt3; have HO3 := Lib.hid hown3; have HB3 := Lib.hid (Below.own HB2.out HO.out hgr3); clear hown3 hgr3 hor3)
                go_roundg (n - (i + 1))
                case measure => omega
                case rel => exact ⟨i + 1, by omega, by simp, HB3, Lib.hid (by rw [E.out, List.length_append, List.map_append]; exact HO3.out)⟩
            · have j2 : ¬ (i : Int) < (l.length : Int) := by omega
              have E : Hid (WW (i + 1) (p : Int) = row) := Lib.hid (by rw [HWS.out, if_neg (by rw [List.getD_eq_getElem?_getD, List.getElem?_eq_none (by omega)]; simp)])
              go_wp2_with fail
              go_roundg (n - (i + 1))
              case measure => omega
              case rel => exact ⟨i + 1, by omega, by simp, HB2, Lib.hid (by rw [E.out]; exact HO.out)⟩
          · have E : Hid (WW (i + 1) (p : Int) = row) := Lib.hid (by rw [HWS.out, if_neg (fun q => hx q.1)])
            go_wp2_with fail
            go_roundg (n - (i + 1))
            case measure => omega
            case rel => exact ⟨i + 1, by omega, by simp, HB2, Lib.hid (by rw [E.out]; exact HO.out)⟩
        · obtain rfl : i = n := by omega
          obtain ⟨row, hrow⟩ : ∃ r, WW i (p : Int) = r := ⟨_, rfl⟩
          have hrs := RS.out p
          have hwl := WL.out i (p : Int)
          rw [hrow] at HO hrs hwl
          have HRS := Lib.hid hrs
          obtain ⟨la, lc, rfl⟩ := own_var HO.out
          obtain ⟨rl, hrl⟩ : ∃ z, (RR p).length = z := ⟨_, rfl⟩
          have hrlp : rl ≤ p := by rw [← hrl]; exact RL.out p
          have HRL := Lib.hid hrl
          rw [hrl] at HM ⊢
          clear hrow hrs hrl
          by_cases hz : row.length = 0
          · have E := Lib.hid (show RR (p + 1) = RR p by rw [HRS.out, if_pos hz])
            have hz2 : ¬ (0 : Int) < (row.length : Int) := by omega
            have HZ := Lib.hid hz
            clear hz
            go_wp2_with fail
            go_roundg (i - (p + 1))
            case measure => omega
            case rel => exact ⟨p + 1, vals, by omega, by simp, Lib.hid (HBW.out.trans (HB2.out.mono HBW.out.size)), Lib.hid (by rw [E.out]; exact HM.out.more HB2.out)⟩
          · have E := Lib.hid (show RR (p + 1) = RR p ++ [row] by rw [HRS.out, if_neg hz])
            have hz2 : (0 : Int) < (row.length : Int) := by omega
            have hm2 := (HM.out.more HB2.out).out
            rw [HRL.out] at hm2
            have HM2 := Lib.hid hm2
            clear hm2
            go_wp2_with (at_builtin; refine wpList_append_lies (wr.alloc (.cells #[.slice la row.length lc] 24)) rfl (.tmp 46) (.tmp 48) 49 rfl w.heap.size 24 j0 (.slice none 0 0) 1 24 Try.underlying49 hj0 hw0 hw1 hw2 rfl (by decide) (.slice oa rl oc) rl vals rfl (HM2.out.alloc _) ⟨wr.heap.size, 0, none⟩ 1 1 [.slice la row.length lc] rfl rfl (World.news_of_block (heap_alloc_new _ _)) (by simp [Value.oneCell']) (by omega) (by unfold maxLen; omega) (by omega) (by have := HB2.out.size; have := HBW.out.size; simp; omega) (wr.heap.size + 1) (by simp) ?_; intro g3 cap3 w3 hown3 hgr3 hor3 hlt3; have HM3 := Lib.hid (HM.out.pushNew HRL.out HBW.out.size HB2.out HO.out hgr3 hor3 hown3); have HB3 := Lib.hid (Below.own (HBW.out.trans (HB2.out.mono HBW.out.size)) HM2.out hgr3); clear hown3 hgr3 hor3)
            go_roundg (i - (p + 1))
            case measure => omega
            case rel => exact ⟨p + 1, _, by omega, by simp, HB3, Lib.hid (by rw [E.out]; exact HM3.out)⟩
    · obtain rfl : p = n := by omega
      go_wp2_with fail
      go_ret
      exact ⟨_, rfl, HM.out.at, HBW.out⟩
noncomputable def rgroupsI (g : Gr) : List (List Int) := refI (partsI g) (fun i => (List.replicate (nodesN g) true).getD i false)
noncomputable def rwithinI (g : Gr) (l : List Bool) : List (List Int) := refI (partsI (keepG g l)) (fun i => l.getD i false)
set_option maxRecDepth 100000 in
set_option maxHeartbeats 4000000 in
theorem rwithinF_ok (v u : Value) (g : Gr) (l : List Bool) (w : World) (h : GraphAt w v g) (hu : BoolsAt w u l) (hl : l.length ≤ 1000000) : Calls Try.prog 49 #[v, u] w (RowsBack w (rwithinI g l)) := by
  obtain ⟨sa, aa, ta, sc, ac, tc, rfl, -⟩ := h.var
  have hb := balloc w (.cells #[.slice sa g.S.length sc, .slice aa g.A.length ac, .slice ta g.T.length tc] 26)
  have KK := Lib.hid (rkeep_ok _ _ g l _ (h.below hb) (hu.below hb) (by omega))
  have HU := Lib.hid (fun (w' : World) (hw : Below w.heap.size w w') => hu.below hw)
  have HB := Lib.hid hb
  have X0 := Lib.hid (heap_alloc_new w (.cells #[.slice sa g.S.length sc, .slice aa g.A.length ac, .slice ta g.T.length tc] 26))
  have HL := Lib.hid hl
  have HKN := Lib.hid (keep_nodes g l)
  clear h hb hu
  go_enter Try.func49, Try.ntmps49
  go_wp2_with (first
    | (go_at_call 37; refine KK.out.mono ?_; rintro e w1 ⟨kv, rfl, hK, hb1⟩; have HK := Lib.hid hK; have HB1 := Lib.hid (HB.out.trans (hb1.mono HB.out.size)); clear hK hb1)
    | (go_at_call 44; refine (rparts_ok _ _ _ HK.out HKN.out).mono ?_; rintro e w2 ⟨rv, rfl, hI, hb2⟩; have HI := Lib.hid hI; have HB2 := Lib.hid (HB1.out.trans (hb2.mono HB1.out.size)); clear hI hb2)
    | (go_at_call 86; refine (rgroups_ok _ _ (partsI (keepG g l)) l w2 HI.out (HU.out _ HB2.out) (by rw [partsI_len]; have := HKN.out; omega) HL.out).mono ?_; rintro e w3 ⟨rv2, rfl, hr, hb3⟩; have HR := Lib.hid hr; have HB3 := Lib.hid (HB2.out.trans (hb3.mono HB2.out.size)); clear hr hb3))
  go_ret
  exact ⟨_, rfl, HR.out, HB3.out⟩
theorem set_true (n k : Nat) : (tab n (fun i => decide (i < k))).set k true = tab n (fun i => decide (i < k + 1)) := by
  rw [tab_upd]
  refine tab_same fun x hx => ?_
  by_cases e : x = k
  · rw [e, upd_same]; simp
  · rw [upd_other _ _ _ _ e]
    have : (x < k) ↔ (x < k + 1) := by omega
    simp [this]
set_option maxRecDepth 100000 in
set_option maxHeartbeats 4000000 in
theorem rgroupsF_ok (v : Value) (g : Gr) (w : World) (h : GraphAt w v g) (hn : nodesN g ≤ 100000) : Calls Try.prog 47 #[v] w (RowsBack w (rgroupsI g)) := by
  obtain ⟨sa, aa, ta, sc, ac, tc, rfl, -⟩ := h.var
  have hb := balloc w (.cells #[.slice sa g.S.length sc, .slice aa g.A.length ac, .slice ta g.T.length tc] 26)
  have PP := Lib.hid (rparts_ok _ g _ (h.below hb) hn)
  have HB := Lib.hid hb
  have X0 := Lib.hid (heap_alloc_new w (.cells #[.slice sa g.S.length sc, .slice aa g.A.length ac, .slice ta g.T.length tc] 26))
  have PL := Lib.hid (partsI_len g)
  clear h hb
  unfold rgroupsI
  obtain ⟨n, hnn⟩ : ∃ n, nodesN g = n := ⟨_, rfl⟩
  generalize partsI g = pl at *
  rw [hnn] at hn PL ⊢
  clear hnn
  go_enter Try.func47, Try.ntmps47
  go_wp2_with (first
    | (go_at_call 44; refine PP.out.mono ?_; rintro e w1 ⟨rv, rfl, hI, hb1⟩; have HI := Lib.hid hI; obtain ⟨ra, rc, rfl, -⟩ := hI; rw [PL.out]; have HB1 := Lib.hid (HB.out.trans (hb1.mono HB.out.size)); clear hb1)
    | (at_make; refine wpList_make_one _ rfl (.tmp 9) (.tmp 9) 33 rfl 4 (.bool false) rfl 1 Try.underlying33 Try.info4 .i64 .i64 (n : Nat) (n : Nat) n rfl rfl rfl rfl (by omega) (by unfold maxLen; omega) ?_; intro w3 hh3 hb3 hlt3; have HB3 := Lib.hid hb3; have HH3 := Lib.hid hh3; clear hb3 hh3))
  have HH4 : Hid (w3.heap[w1.heap.size]? = some (.cells (bools (tab n (fun i => decide (i < 0)))) 4 (0, 0))) := Lib.hid (by
    rw [HH3.out, ← bools_replicate]
    have : tab n (fun i => decide (i < 0)) = List.replicate n false := by unfold tab; simp [List.map_const']
    rw [this])
  have HI2 := Lib.hid (fun (w' : World) (hw : Below w1.heap.size w1 w') => HI.out.below hw)
  go_loopg [5] n (fun fu c wr => ∃ k : Nat, k + fu = n ∧ c = .int .i64 k ∧ Below w1.heap.size w1 wr ∧ wr.heap[w1.heap.size]? = some (.cells (bools (tab n (fun i => decide (i < k)))) 4 (0, 0)))
  case atStart => exact ⟨0, by omega, rfl, HB3.out, HH4.out⟩
  case round =>
    clear HH3 HH4 HB3
    obtain ⟨k, hk, rfl, hb, hh⟩ := hrel
    by_cases hlt : k < n
    · have z : (k : Int) < (n : Int) := by omega
      have c0 := cell_of_block hh k _ (bools_get _ k (by rw [tab_len]; exact hlt))
      have f0 := free_of_block hh k
      have HX : Hid ((wr.setCell ⟨w1.heap.size, k, none⟩ (.bool true)).heap[w1.heap.size]? = some (.cells (bools (tab n (fun i => decide (i < k + 1)))) 4 (0, 0))) := Lib.hid (by
        rw [heap_setCell_block hh, bools_set, set_true n k])
      have HY := Lib.hid (hb.setCell (p := ⟨w1.heap.size, k, none⟩) (Nat.le_refl _) (.bool true))
      clear hh hb
      generalize (tab n _).getD k false = vb at *
      go_wp2_with fail
      go_roundg (n - (k + 1))
      case measure => omega
      case rel => exact ⟨k + 1, by omega, by simp, HY.out, HX.out⟩
    · obtain rfl : k = n := by omega
      have e : tab k (fun i => decide (i < k)) = List.replicate k true := by
        have : tab k (fun i => decide (i < k)) = tab k (fun _ => true) := tab_same fun x hx => decide_eq_true hx
        rw [this]; unfold tab; simp [List.map_const']
      rw [e] at hh
      have HR := Lib.hid (rgroups_ok _ _ pl (List.replicate k true) wr (HI2.out wr hb) (boolsAt_block (n := k) hh (by simp) k) (by rw [PL.out]; omega) (by simp; omega))
      have HBX := Lib.hid (HB1.out.trans (hb.mono HB1.out.size))
      rw [PL.out] at HR
      clear hh hb e
      go_wp2_with (go_at_call 86; refine HR.out.mono ?_; rintro e w4 ⟨rv2, rfl, hr, hb4⟩; have HR4 := Lib.hid hr; have HB4 := Lib.hid (HBX.out.trans (hb4.mono HBX.out.size)); clear hr hb4)
      go_ret
      exact ⟨_, rfl, HR4.out, HB4.out⟩
end Go.Proofs.Ytnlaonppgebpoaa

namespace Go.Proofs.Ytnlaonppgebpoaa

section
variable {α β : Type} [DecidableEq α] [DecidableEq β]
theorem filter_same {γ : Type} {p q : γ → Bool} {l : List γ} (h : ∀ x ∈ l, p x = q x) : l.filter p = l.filter q := List.filter_congr h
theorem decide_same {p q : Prop} [Decidable p] [Decidable q] (h : p ↔ q) : decide p = decide q := by
  by_cases hp : p
  · rw [decide_eq_true hp, decide_eq_true (h.1 hp)]
  · rw [decide_eq_false hp, decide_eq_false (fun q => hp (h.2 q))]
theorem isF_same {q : Nat → α} {q' : Nat → β} {inn inn' : Nat → Bool} {n : Nat} (h : ∀ i j, i < n → j < n → (q i = q j ↔ q' i = q' j)) (hi : ∀ i, i < n → inn i = inn' i) {i : Nat} (hin : i < n) : isF q inn i = isF q' inn' i := by
  have e : isF q inn i = true ↔ isF q' inn' i = true := by
    rw [isF_iff, isF_iff, hi i hin]
    refine and_congr_right fun _ => ?_
    constructor
    · intro hh k hk hk2 e
      exact hh k hk (by rw [hi k (by omega)]; exact hk2) ((h k i (by omega) hin).2 e)
    · intro hh k hk hk2 e
      exact hh k hk (by rw [← hi k (by omega)]; exact hk2) ((h k i (by omega) hin).1 e)
  cases h1 : isF q inn i <;> cases h2 : isF q' inn' i <;> simp [h1, h2] at e ⊢
theorem grp_same {q : Nat → α} {q' : Nat → β} {inn inn' : Nat → Bool} {n : Nat} (h : ∀ i j, i < n → j < n → (q i = q j ↔ q' i = q' j)) (hi : ∀ i, i < n → inn i = inn' i) : grp q inn n = grp q' inn' n := by
  have e1 : firsts q inn n = firsts q' inn' n := filter_same fun i hin => isF_same h hi (List.mem_range.1 hin)
  unfold grp
  rw [e1]
  refine List.map_congr_left fun j hj => ?_
  have hj := (mem_firsts.1 hj).1
  refine filter_same fun k hk => ?_
  have hk := List.mem_range.1 hk
  rw [hi k hk, decide_same (h k j hk hj)]
end
/-- the program's rows are the document's -/
theorem rows_eq {g : Gr} {inn inn' : Nat → Bool} (hi : ∀ i, i < nodesN g → inn i = inn' i) (hm : ∀ i j, i < j → j < nodesN g → isF (partN g) inn i = true → isF (partN g) inn j = true → partN g i < partN g j) :
    grpI (partsI g) inn = refI (partsI g) inn' := by
  unfold grpI refI refR
  rw [partsI_len]
  congr 1
  have e1 : grp (fun k => (partsI g).getD k 0) inn (nodesN g) = grp (partN g) inn (nodesN g) := grp_same (fun i j hi hj => by
    show (partsI g).getD i 0 = (partsI g).getD j 0 ↔ _
    rw [partsI_get hi, partsI_get hj]; omega) (fun _ _ => rfl)
  rw [e1, grp_ref (fun k hk _ => partN_lt hk) hm]
  congr 1
  refine List.map_congr_left fun p _ => filter_same fun k hk => ?_
  have hk := List.mem_range.1 hk
  rw [hi k hk]
  congr 1
  refine decide_same ?_
  show _ ↔ (partsI g).getD k 0 = _
  rw [partsI_get hk]
  exact ⟨fun h => by have h' : partN g k = p := h; rw [h'], fun h => show partN g k = p by omega⟩
theorem partN_first {g : Gr} {i k : Nat} (hi : ∀ j, j < i → partN g j ≠ partN g i) (hk : k < i) : partN g k < partN g i := by
  refine cnV_first (fun j hj e => hi j hj ?_) hk
  rw [partN_eq, ← scF_iff]
  exact e.symm
theorem groups_eq (g : Gr) : groupsI g = rgroupsI g := by
  refine rows_eq (fun i hi => ?_) (fun i j hij hj _ hf => ?_)
  · simp [hi]
  · exact partN_first (fun k hk => (isF_iff.1 hf).2 k hk rfl) hij
theorem keep_edges {g : Gr} {l : List Bool} {e : Ed} (h : e ∈ allL (keepG g l)) : inB l e.1 = true ∧ inB l e.2.2 = true := by
  have h0 : allL (⟨[], [], []⟩ : Gr) = [] := allL_not (rightB_false (fun hR => by have := hR.ne; simp at this))
  cases hr : rightB g
  · unfold keepG at h
    rw [madeG_not hr, h0] at h
    cases h
  · have hR := (rightB_iff g).1 hr
    unfold keepG at h
    rw [madeG_right hR] at h
    cases hb : buildOk (nodesN g : Nat) (tellL (keepE l) (allL g))
    · rw [buildG_bad hb, h0] at h; cases h
    · rw [buildG_ok hb, mem_all_csr hb] at h
      unfold tellL at h
      obtain ⟨e', he, rfl⟩ := List.mem_map.1 h
      have := (List.mem_filter.1 he).2
      simpa [keepE] using this
theorem pth_last {E : Nat → Nat → Prop} {i k : Nat} (h : Pth E i k) (hne : i ≠ k) : ∃ x, E x k := by
  cases h with
  | refl => exact absurd rfl hne
  | step _ he => exact ⟨_, he⟩
theorem within_eq (g : Gr) (l : List Bool) : withinI g l = rwithinI g l := by
  refine rows_eq (fun i _ => rfl) (fun i j hij hj _ hf => ?_)
  refine partN_first (fun k hk e => ?_) hij
  have hsc := partN_eq.1 e
  obtain ⟨x, ed, he, -, h2⟩ := pth_last hsc.2 (fun q => by omega)
  have := (keep_edges he).2
  rw [h2] at this
  have hin : l.getD k false = true := by
    unfold inB at this
    simpa using (Bool.and_eq_true _ _ ▸ this).2
  exact (isF_iff.1 hf).2 k hk hin e
end Go.Proofs.Ytnlaonppgebpoaa
