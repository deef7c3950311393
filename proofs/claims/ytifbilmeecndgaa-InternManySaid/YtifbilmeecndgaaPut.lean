/-
  (*intern.Table).Put.
-/
import Derived.Test.YtifbilmeecndgaaGrow
import Derived.Deep.AppendLies
namespace Go.Proofs.Ytifbilmeecndgaa
open Go.RowKit
theorem Try.info9 : (Try.prog.info? 9).map (fun i => (i.zero, i.size, i.bytes)) = some (some (.string ByteArray.empty), 1, 16) := by kernel_rfl

theorem grownBy_frm {F : Nat → Prop} {w w' : World} {row : Option Nat} (hg : w.grownBy w' row) (hF : ∀ k, row = some k → F k) : Frm F w w' :=
  (Frm.refl F w).grown hg (fun k hk _ => hF k hk)

theorem put_facts {w w1 w2 : World} {tb sb p N : Nat} {tv : Value} {L : List ByteArray} {S : List Nat} {o : Obj} {z : Value} (h : TabAt w tb sb tv L S) (hb1 : Below w.heap.size w w1) (hg : (w1.alloc o).grownBy w2 tv.ownBlock)
    (d0 : w1.cell? ⟨tb, 0, none⟩ = some tv) (d1 : w1.cell? ⟨tb, 1, none⟩ = some (.slice (some ⟨sb, 0, none⟩) N N)) (d2 : w1.cell? ⟨sb, p, none⟩ = some z)
    (e0 : w1.frozen? ⟨tb, 0, none⟩ = false) (e2 : w1.frozen? ⟨sb, p, none⟩ = false) :
    w2.cell? ⟨tb, 0, none⟩ = some tv ∧ w2.cell? ⟨tb, 1, none⟩ = some (.slice (some ⟨sb, 0, none⟩) N N) ∧ w2.cell? ⟨sb, p, none⟩ = some z ∧ w2.frozen? ⟨tb, 0, none⟩ = false ∧ w2.frozen? ⟨sb, p, none⟩ = false ∧
      Frm (fun k => tv.ownBlock = some k) w w2 := by
  have f : Frm (fun k => tv.ownBlock = some k) w1 w2 := ((Frm.refl _ w1).alloc o).trans (grownBy_frm hg (fun k hk => hk))
  have lt0 := World.block_lt_of_cell? w1 _ d0
  have lt2 := World.block_lt_of_cell? w1 _ d2
  exact ⟨f.cell d0 h.net, f.cell d1 h.net, f.cell d2 h.nes, (World.frozen?_of_block (a := ⟨tb, 0, none⟩) (f.block tb lt0 h.net)).trans e0, (World.frozen?_of_block (a := ⟨sb, p, none⟩) (f.block sb lt2 h.nes)).trans e2, (bfrm hb1 _).trans f⟩

theorem put_tab {w w2 : World} {tb sb g2 cap2 n1 : Nat} {tv : Value} {L : List ByteArray} {S : List Nat} {s : ByteArray} (h : TabAt w tb sb tv L S) (hf : Frm (fun k => tv.ownBlock = some k) w w2)
    (hown : w2.ownsRow 0 9 1 (.slice (some ⟨g2, 0, none⟩) (L.length + 1) cap2) (L.length + 1) (L.map Value.string ++ [Value.string s])) (hor : tv.ownBlock = some g2 ∨ g2 = n1 + 1) (hn : w.heap.size ≤ n1) :
    TabAt (w2.setCell ⟨tb, 0, none⟩ (.slice (some ⟨g2, 0, none⟩) (L.length + 1) cap2)) tb sb (.slice (some ⟨g2, 0, none⟩) (L.length + 1) cap2) (L ++ [s]) S := by
  have l0 := h.lt tb (.inl rfl)
  have l1 := h.lt sb (.inr (.inl rfl))
  have a1 : g2 ≠ tb := by rintro rfl; rcases hor with e | e; exact h.net e; omega
  have a2 : g2 ≠ sb := by rintro rfl; rcases hor with e | e; exact h.nes e; omega
  refine ⟨?_, ?_, ?_, h.ne, by simp [Value.ownBlock, a1], by simp [Value.ownBlock, a2]⟩
  · rw [heap_setCell_block (hf.heap h.head h.net)]; rfl
  · rw [Below.heap_setCell _ _ _ _ h.ne]; exact hf.heap h.slots h.nes
  · have := ownsRow_frm (F := fun k => k = tb) hown ((Frm.refl (fun k => k = tb) w2).setCell (p := ⟨tb, 0, none⟩) (fun _ => rfl) (.slice (some ⟨g2, 0, none⟩) (L.length + 1) cap2)) (fun k hk e => by simp [Value.ownBlock] at hk; omega)
    simpa using this

/-- what grow leaves, seen from Put's beginning -/
def PutOut (w : World) (tb sb : Nat) (tv T : Value) (L : List ByteArray) (w' : World) : Prop :=
  ∃ sb' S', TabAt w' tb sb' T L S' ∧ Right L S' ∧ Frm (Foot tb sb tv) w w' ∧ (sb' = sb ∨ w.heap.size ≤ sb')

theorem slots_ge (m : Nat) (hm : m ≤ 100000) : 16 ≤ Tab.slots m ∧ 2 * m ≤ Tab.slots m := by
  obtain ⟨j, _, h1, h2, _⟩ := slots_two m hm
  have := Nat.two_pow_pos j
  omega

theorem put_nodup {L : List ByteArray} {s : ByteArray} (h : L.Nodup) (hs : s ∉ L) : (L ++ [s]).Nodup := by
  rw [List.nodup_append]
  refine ⟨h, by simp, ?_⟩
  intro a ha b hb
  simp at hb; subst hb
  intro e; subst e; exact hs ha

theorem put_fine {L : List ByteArray} {S : List Nat} {s : ByteArray} {p m : Nat} (hr : Right L S) (hs : s ∉ L) (hp : Tab.spot hashN L S s = p) (hm : S.length = 2 ^ m) :
    Tab.Fine hashN (L ++ [s]) (S.set p (L.length + 1)) (L.length + 1) := by
  have hlen : 16 ≤ S.length := by
    obtain ⟨j, _, h1, _⟩ := slots_two L.length hr.few
    rw [hr.len, h1]; have := Nat.two_pow_pos j; omega
  have h1 := (hr.fine.more s).put (by simp) (by have := hr.room; omega) (put_nodup hr.nodup hs)
  have e1 : (L ++ [s]).getD L.length ByteArray.empty = s := by simp [List.getD]
  rw [e1] at h1
  have e2 : Tab.spot hashN (L ++ [s]) S s = p := by
    rw [← hp]
    have hh : ∀ q, Tab.hit (L ++ [s]) S s q = Tab.hit L S s q := by
      intro q
      have hb := hr.fine.bound q
      unfold Tab.hit
      by_cases h0 : S.getD q 0 = 0
      · rw [h0]; rfl
      · have : (L ++ [s]).getD (S.getD q 0 - 1) ByteArray.empty = L.getD (S.getD q 0 - 1) ByteArray.empty := by
          have hq : S.getD q 0 - 1 < L.length := by omega
          generalize S.getD q 0 - 1 = z at *
          simp only [List.getD]; rw [List.getElem?_append_left hq]
        rw [this]
    have hpr : ∀ f q, Tab.probe (L ++ [s]) S s f q = Tab.probe L S s f q := by
      intro f
      induction f with
      | zero => intro q; rfl
      | succ f ih => intro q; rw [Tab.probe, Tab.probe, hh, ih]
    exact hpr _ _
  rw [e2] at h1
  exact h1

section
variable (w : World) (tb sb : Nat) (tv : Value) (L : List ByteArray) (S : List Nat) (h : TabAt w tb sb tv L S) (hr : Right L S)
include h hr

set_option maxHeartbeats 1000000 in
theorem put_old (i : Nat) (hi : i < L.length) (hs : (L.getD i ByteArray.empty).size ≤ 200) :
    Calls Try.prog 10 #[.pointer (some ⟨tb, 0, none⟩), .string (L.getD i ByteArray.empty)] w fun e w' => e = .returned (.tuple #[.int .i64 (i : Nat), .bool false]) ∧ Below w.heap.size w w' := by
  obtain ⟨m, hm, hp⟩ := hr.pow
  have hfo := hr.fine.found hr.nodup i hi
  have c1 : w.cell? ⟨tb, 1, none⟩ = some (.slice (some ⟨sb, 0, none⟩) S.length S.length) := cell_of_block h.head 1 _ rfl
  generalize hss : L.getD i ByteArray.empty = s at *
  have hlt := hr.fine.spot_lt s
  have c2 : w.cell? ⟨sb, Tab.spot hashN L S s, none⟩ = some (.int .i64 ((i + 1 : Nat) : Int)) := by rw [← hfo]; exact cell_of_block h.slots _ _ (slotCells_get S _ hlt)
  have hfew := hr.few
  have hlen : S.length ≤ 1099511627776 := by rw [hp]; exact Nat.pow_le_pow_right (by omega) hm
  have T := there_tab w tb sb _ L S h hr
  have HT := Lib.hid T
  have F := find_any 0 tb sb tv L S _ m s w hs hp hm hr.few hr.fine h.head h.slots h.own
  have HF := Lib.hid F
  clear T F h hr hp hss hfo
  generalize Tab.spot hashN L S s = p at *
  generalize S.length = N at *
  have hp2 : (p : Int) < (N : Int) := by omega
  go_enter Try.func10, Try.ntmps10
  go_wp2_with (first | (go_at_call 20; refine HT.out.mono ?_; rintro e w1 ⟨rfl, rfl⟩) | (go_at_call 21; refine HF.out.mono ?_; rintro e w1 ⟨rfl, hb1⟩; have d1 := bkeep hb1 c1; have d2 := bkeep hb1 c2; clear c1 c2))
  go_ret2
  exact ⟨by simp, hb1⟩

set_option maxHeartbeats 2000000 in
theorem put_new (s : ByteArray) (hs : s.size ≤ 200) (hnew : s ∉ L) (hL : ∀ x ∈ L, x.size ≤ 200) (hfew : L.length < 99999) :
    Calls Try.prog 10 #[.pointer (some ⟨tb, 0, none⟩), .string s] w fun e w' => e = .returned (.tuple #[.int .i64 (L.length : Nat), .bool true]) ∧
      ∃ tv' sb' S', TabAt w' tb sb' tv' (L ++ [s]) S' ∧ Right (L ++ [s]) S' ∧ Frm (Foot tb sb tv) w w' ∧ ∀ k, Foot tb sb' tv' k → Foot tb sb tv k ∨ w.heap.size ≤ k := by
  obtain ⟨m, hm, hp⟩ := hr.pow
  have hne : ∀ i, i < L.length → L.getD i ByteArray.empty ≠ s := fun i hi e => hnew (by rw [← e]; simp [List.getD, hi])
  obtain ⟨hfree, _⟩ := hr.fine.free s hne
  have hlt := hr.fine.spot_lt s
  have c0 : w.cell? ⟨tb, 0, none⟩ = some tv := cell_of_block h.head 0 _ rfl
  have c1 : w.cell? ⟨tb, 1, none⟩ = some (.slice (some ⟨sb, 0, none⟩) S.length S.length) := cell_of_block h.head 1 _ rfl
  have c2 : w.cell? ⟨sb, Tab.spot hashN L S s, none⟩ = some (.int .i64 0) := by have := cell_of_block h.slots _ _ (slotCells_get S _ hlt); rw [hfree] at this; exact this
  have hlen : S.length ≤ 1099511627776 := by rw [hp]; exact Nat.pow_le_pow_right (by omega) hm
  have T := there_tab w tb sb _ L S h hr
  have HT := Lib.hid T
  have F := find_any 0 tb sb tv L S _ m s w hs hp hm hr.few hr.fine h.head h.slots h.own
  have HF := Lib.hid F
  have l0 := h.lt tb (.inl rfl)
  have l1 := h.lt sb (.inr (.inl rfl))
  have g0 : w.frozen? ⟨tb, 0, none⟩ = false := free_of_block h.head 0
  have g2 : w.frozen? ⟨sb, Tab.spot hashN L S s, none⟩ = false := free_of_block h.slots _
  have hne2 : sb ≠ tb := h.ne
  have H := Lib.hid (And.intro h (And.intro hr (And.intro hp (And.intro hne hfree))))
  clear T F h hr hp hne hfree
  obtain ⟨i0, hi0, hz0, hz1, hz2⟩ := info_parts Try.info9
  generalize hsp : Tab.spot hashN L S s = p at *
  have HP := Lib.hid hsp
  clear hsp
  generalize hN : S.length = N at *
  have HN := Lib.hid hN
  clear hN
  have hp2 : (p : Int) < (N : Int) := by omega
  go_enter Try.func10, Try.ntmps10
  go_wp2_with (first | (go_at_call 20; refine HT.out.mono ?_; rintro e w1 ⟨rfl, rfl⟩) | (go_at_call 21; refine HF.out.mono ?_; rintro e w1 ⟨rfl, hb1⟩; have d0 := bkeep hb1 c0; have d1 := bkeep hb1 c1; have d2 := bkeep hb1 c2; have e0 := (hb1.frozen (p := ⟨tb, 0, none⟩) l0).trans g0; have e2 := (hb1.frozen (p := ⟨sb, p, none⟩) l1).trans g2; have hs1 := hb1.size; clear c0 c1 c2 g0 g2 HT HF) | (at_builtin; refine wpList_append_lies (w1.alloc (.cells #[.string s] 9)) rfl (.tmp 33) (.tmp 35) 22 rfl 0 9 i0 (.string ByteArray.empty) 1 16 Try.underlying22 hi0 hz0 hz1 hz2 rfl (by decide) tv L.length (L.map Value.string) rfl ((ownsRow_frm H.out.1.own (bfrm hb1 (fun _ => False)) (fun _ _ => id)).alloc _) ⟨w1.heap.size, 0, none⟩ 1 1 [.string s] rfl rfl (cell_one_new _ _ _) (by simp [Value.oneCell']) (by omega) (by unfold maxLen; omega) (by omega) (Nat.zero_le _) (w1.heap.size + 1) (by simp) ?_; intro g2 cap2 w2 hown2 hgr2 hor2 hlt2; obtain ⟨q0, q1, q2, q3, q4, q5⟩ := put_facts H.out.1 hb1 hgr2 d0 d1 d2 e0 e2; clear d0 d1 d2 e0 e2 hgr2))
  have hT3 : TabAt (w2.setCell ⟨tb, 0, none⟩ (.slice (some ⟨g2, 0, none⟩) (L.length + 1) cap2)) tb sb (.slice (some ⟨g2, 0, none⟩) (L.length + 1) cap2) (L ++ [s]) S := put_tab H.out.1 q5 hown2 hor2 (by omega)
  have hF3 : Frm (Foot tb sb tv) w (w2.setCell ⟨tb, 0, none⟩ (.slice (some ⟨g2, 0, none⟩) (L.length + 1) cap2)) := (q5.mono (fun k _ hk => .inr (.inr hk))).setCell (p := ⟨tb, 0, none⟩) (fun _ => .inl rfl) _
  clear q0 q1 q2 q3 q4 q5 hown2 hlt2
  have hg2 : tv.ownBlock = some g2 ∨ w.heap.size ≤ g2 := hor2.imp id (fun e => by omega)
  clear hor2
  generalize World.setCell w2 _ _ = w3 at *
  have c0 : w3.cell? ⟨tb, 0, none⟩ = some (.slice (some ⟨g2, 0, none⟩) (L.length + 1) cap2) := cell_of_block hT3.head 0 _ rfl
  have c1 : w3.cell? ⟨tb, 1, none⟩ = some (.slice (some ⟨sb, 0, none⟩) N N) := by have := cell_of_block hT3.head 1 _ rfl; rw [HN.out] at this; exact this
  have c2 : w3.cell? ⟨sb, p, none⟩ = some (.int .i64 0) := by have := cell_of_block hT3.slots p _ (slotCells_get S _ (by have := HN.out; omega)); rw [H.out.2.2.2.2] at this; exact this
  have f2 : w3.frozen? ⟨sb, p, none⟩ = false := free_of_block hT3.slots _
  have hT5 : TabAt (w3.setCell ⟨sb, p, none⟩ (.int .i64 ((L.length + 1 : Nat) : Int))) tb sb (.slice (some ⟨g2, 0, none⟩) (L.length + 1) cap2) (L ++ [s]) (S.set p (L.length + 1)) := hT3.set p (L.length + 1)
  have hF5 : Frm (Foot tb sb tv) w (w3.setCell ⟨sb, p, none⟩ (.int .i64 ((L.length + 1 : Nat) : Int))) := hF3.setCell (p := ⟨sb, p, none⟩) (fun _ => .inr (.inl rfl)) _
  have hfine : Tab.Fine hashN (L ++ [s]) (S.set p (L.length + 1)) (L.length + 1) := put_fine H.out.2.1 hnew HP.out (by rw [HN.out]; exact H.out.2.2.1)
  have hnd : (L ++ [s]).Nodup := put_nodup H.out.2.1.nodup hnew
  have HZ := Lib.hid (And.intro hT5 (And.intro hF5 (And.intro hfine hnd)))
  clear hT3 hF3 hT5 hF5 hfine hnd
  have hr := H.out.2.1
  have hlen1 := hr.len
  have hroom := hr.room
  rw [HN.out] at hlen1 hroom
  have hpow := H.out.2.2.1
  have hss := slots_succ L.length (by omega)
  have G : ∀ w5, (w3.setCell ⟨sb, p, none⟩ (.int .i64 ((L.length + 1 : Nat) : Int))).drew = w5 → Calls Try.prog 22 #[.pointer (some ⟨tb, 0, none⟩)] w5 fun e w' => e = .returned (.tuple #[]) ∧ PutOut w tb sb tv (.slice (some ⟨g2, 0, none⟩) (L.length + 1) cap2) (L ++ [s]) w' := by
    rintro w5 rfl
    have h5 := HZ.out.1.below (Below.refl _ _).drew
    by_cases hc : N < 2 * (L.length + 1)
    · have hm40 : m + 1 ≤ 40 := by
        apply Classical.byContradiction; intro hno
        have : 2 ^ 40 ≤ 2 ^ m := Nat.pow_le_pow_right (by omega) (by omega)
        omega
      refine (grow_yes _ tb sb _ (L ++ [s]) (S.set p (L.length + 1)) h5 (by simp; omega) m hm40 (by rw [List.length_set, HN.out]; exact hpow) (by rw [List.length_set, HN.out]; simp; omega) (by rw [List.length_set, HN.out]; simp; have := hr.fine.room; rw [HN.out] at this; have := slots_ge L.length hr.few; omega) HZ.out.2.2.2 (by
        intro x hx; rcases List.mem_append.1 hx with hx | hx
        · exact hL x hx
        · simp at hx; subst hx; exact hs)).mono ?_
      rintro e w' ⟨rfl, S', hSl, sb', hsb', hT', hFi', hFr'⟩
      rw [List.length_set, HN.out] at hSl
      refine ⟨rfl, sb', S', hT', ⟨⟨m + 1, hm40, by rw [hSl, hpow, Nat.pow_succ]; omega⟩, hFi', HZ.out.2.2.2, ?_, by rw [hSl]; simp; omega, by simp; omega⟩, HZ.out.2.1.drew.trans' hFr' (fun i _ hi => .inl hi), .inr ?_⟩
      · rw [hSl, List.length_append, List.length_singleton, hss, ← hlen1, if_pos hc]
      · have := HZ.out.2.1.size; simp at hsb'; simp at this; omega
    · refine (grow_no _ tb sb _ (L ++ [s]) (S.set p (L.length + 1)) h5 (by simp; omega) (by rw [List.length_set, HN.out]; exact hlen) (by rw [List.length_set, HN.out]; simp; omega)).mono ?_
      rintro e w' ⟨rfl, hb⟩
      refine ⟨rfl, sb, _, h5.below hb, ⟨⟨m, hm, by rw [List.length_set, HN.out, hpow]⟩, by simpa using HZ.out.2.2.1, HZ.out.2.2.2, ?_, by rw [List.length_set, HN.out]; simp; omega, by simp; omega⟩, HZ.out.2.1.drew.trans (bfrm hb _), .inl rfl⟩
      rw [List.length_set, HN.out, List.length_append, List.length_singleton, hss, ← hlen1, if_neg hc]
  have HG := Lib.hid G
  clear G hr hlen1 hroom hpow hss
  refine region_tail 11 (by kernel_rfl) (by kernel_rfl) ?_
  simp only [List.take_succ_cons, List.take_zero, List.drop_succ_cons, List.drop_zero]
  repeat still_step
  refine wpStill_nil ?_
  go_wp2_with (go_at_call 22; refine (HG.out _ rfl).mono ?_; rintro e w6 ⟨rfl, sb', S', hT6, hR6, hF6, hs6⟩; have c6 : w6.cell? ⟨tb, 0, none⟩ = some (.slice (some ⟨g2, 0, none⟩) (L.length + 1) cap2) := cell_of_block hT6.head 0 _ rfl)
  go_ret2
  refine ⟨by simp, _, sb', S', hT6, hR6, hF6, ?_⟩
  rintro k (rfl | rfl | hk)
  · exact .inl (.inl rfl)
  · rcases hs6 with rfl | h6
    · exact .inl (.inr (.inl rfl))
    · exact .inr h6
  · simp [Value.ownBlock] at hk; subst hk
    exact hg2.imp (fun e => .inr (.inr e)) id
end
end Go.Proofs.Ytifbilmeecndgaa
