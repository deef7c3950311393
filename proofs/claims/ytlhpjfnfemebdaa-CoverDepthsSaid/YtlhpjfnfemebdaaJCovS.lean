/-
  Rows of truths that a call builds, row by row. What is done: plain; rows of truths in blocks of their own. Plain: rows of groups; what 'less' leaves; the first part that is found. Plain: parts within parts; what is found is good; where something is good, something is found. Weak of both: the walks. fair.without, ref18.less: the walks. A stack of parts, and pushing those that are circles. Strong's push (function 93): the parts that are circles, the first on top. fair.Strong (function 56): the walk. ref18.strong, ref18.Strong: the walks. fair.Find, ref18.Find: the walks. What is on a circle: the program's, by parts.
-/
import Derived.Lib.SliceRun
import Derived.Test.YtlhpjfnfemebdaaJFairA
import Derived.Test.YtlhpjfnfemebdaaJMachT
import Derived.Test.YtlhpjfnfemebdaaJCovP
import Derived.Test.YtlhpjfnfemebdaaJCovD
import Derived.Test.YtlhpjfnfemebdaaJSpM
import Derived.Test.YtlhpjfnfemebdaaJRefPartsW
import Derived.Test.YtlhpjfnfemebdaaActB
namespace Go.Proofs.Ytlhpjfnfemebdaa
open Go.RowKit
theorem infoB39 : (Try.prog.info? 39).map (fun i => (i.zero, i.size, i.bytes)) = some (some (.slice none 0 0), 1, 24) := by kernel_rfl
def OwnT (base : Nat) (w : World) (v : Value) (l : List Bool) : Prop := w.ownsRow base 4 1 v l.length (l.map Value.bool)
theorem OwnT.nil (base : Nat) (w : World) : OwnT base w (.slice none 0 0) [] := World.ownsRow_nil _ _ _ _
theorem OwnT.more {base : Nat} {w w' : World} {v : Value} {l : List Bool} (h : OwnT base w v l) (hb : Below w.heap.size w w') : OwnT base w' v l := ownm h hb
theorem OwnT.bools {base : Nat} {w : World} {v : Value} {l : List Bool} (h : OwnT base w v l) : BoolsAt w v l := by
 obtain ⟨a, cp, rfl⟩ := ownv h
 refine ⟨a, cp, rfl, fun j hj => ?_⟩
 obtain ⟨g, cap, e, -, -⟩ := World.ownsRow.form h (by omega)
 cases e
 refine ⟨g, 0, rfl, ?_⟩
 have := World.ownsRow.cellAt h j (by omega)
 rw [Nat.zero_add, this, List.getElem?_map, List.getElem?_eq_getElem hj, List.getD_eq_getElem?_getD, List.getElem?_eq_getElem hj]
 rfl
theorem OwnT.st {base : Nat} {w : World} {v : Value} {l : List Bool} (h : OwnT base w v l) {F : Nat → Prop} (hF : ∀ k, v.ownBlock = some k → ¬ F k) : St F (fun w => BoolsAt w v l) w := (own_st h hF).imp fun _ h => OwnT.bools h
structure BRM (base : Nat) (F : Nat → Prop) (w : World) (ov : Value) (vals : List Value) (rows : List (List Bool)) : Prop where
 len : vals.length = rows.length
 out : w.ownsRow base 39 1 ov rows.length vals
 inn : ∀ j, j < rows.length → St F (fun w => BoolsAt w (vals.getD j undef) (rows.getD j [])) w
theorem BRM.nil (base : Nat) (F : Nat → Prop) (w : World) : BRM base F w (.slice none 0 0) [] [] := ⟨rfl, World.ownsRow_nil _ _ _ _, fun j hj => by simp at hj⟩
theorem BRM.rows {base : Nat} {F : Nat → Prop} {w : World} {ov : Value} {vals : List Value} {rows : List (List Bool)} (h : BRM base F w ov vals rows) : BRowsAt w ov rows := by
 obtain ⟨a, cp, rfl⟩ := ownv h.out
 refine ⟨a, cp, rfl, fun j hj => ?_⟩
 obtain ⟨g, cap, e, -, -⟩ := World.ownsRow.form h.out (by omega)
 cases e
 refine ⟨g, 0, vals.getD j undef, rfl, ?_, (h.inn j hj).now⟩
 have := World.ownsRow.cellAt h.out j (by omega)
 have hl := h.len
 rw [Nat.zero_add, this, List.getD_eq_getElem?_getD, List.getElem?_eq_getElem (by omega)]
 rfl
theorem BRM.step {base : Nat} {F F' : Nat → Prop} {w w' : World} {ov : Value} {vals : List Value} {rows : List (List Bool)} (h : BRM base F w ov vals rows) (k : Frm F w w') (ho : w'.ownsRow base 39 1 ov rows.length vals) (hF : ∀ q, F' q → F q ∨ w.heap.size ≤ q) : BRM base F' w' ov vals rows :=
 ⟨h.len, ho, fun j hj => (h.inn j hj).step k hF⟩
theorem BRM.more {base : Nat} {F : Nat → Prop} {w w' : World} {ov : Value} {vals : List Value} {rows : List (List Bool)} (h : BRM base F w ov vals rows) (hb : Below w.heap.size w w') : BRM base F w' ov vals rows :=
 h.step (bfrm hb F) (ownm h.out hb) fun _ hq => .inl hq
theorem BRM.push {base : Nat} {w w' : World} {ov ov' rv : Value} {vals : List Value} {rows : List (List Bool)} {row : List Bool} (h : BRM base (fun q => ov.ownBlock = some q ∨ rv.ownBlock = some q) w ov vals rows) (hr : OwnT base w rv row) (ha : AP rv ov)
  (hg : w.grownBy w' ov.ownBlock) (hown : w'.ownsRow base 39 1 ov' (rows.length + 1) (vals ++ [rv])) (hor : ∀ q, ov'.ownBlock = some q → ov.ownBlock = some q ∨ w.heap.size ≤ q) : BRM base (fun q => ov'.ownBlock = some q) w' ov' (vals ++ [rv]) (rows ++ [row]) := by
 have hl := h.len
 have k : Frm (fun q => ov.ownBlock = some q ∨ rv.ownBlock = some q) w w' := frm_grow hg (fun q e => .inl e)
 refine ⟨by simp [hl], by rw [List.length_append, List.length_singleton]; exact hown, fun j hj => ?_⟩
 rw [List.length_append, List.length_singleton] at hj
 by_cases e : j < rows.length
 ·rw [getD_app_l (by omega), getD_app_l e]
  exact (h.inn j e).step k fun q hq => (hor q hq).imp (fun e => .inl e) id
 ·obtain rfl : j = rows.length := by omega
  rw [getD_app_e' hl, getD_app_e]
  have h2 : OwnT base w' rv row := ownsRow_frm (F := fun q => ov.ownBlock = some q) hr (frm_grow hg (fun q e => e)) (fun q e1 e2 => ha q e1 e2)
  refine h2.st fun q e1 e2 => ?_
  have h3 := (World.ownsRow.lt hr q e1).2
  rcases hor q e2 with e | e
  ·exact ha q e1 e
  ·omega
def oneRel (base k : Nat) (t : TypeId) (x : Value) (vs : List Value) (j : Nat) (v : Value) (w : World) : Prop :=
 if j = k then ∃ b, v = .slice (some ⟨b, 0, none⟩) 1 1 ∧ base ≤ b ∧ w.heap[b]? = some (.cells #[x] t (0, 0)) else v = vs.getD j undef
theorem oneRel_mono {base k : Nat} {t : TypeId} {x : Value} {vs : List Value} {j : Nat} {v : Value} {w w' : World} (hb : Below w.heap.size w w') (h : oneRel base k t x vs j v w) : oneRel base k t x vs j v w' := by
 unfold oneRel at h ⊢
 split
 ·rename_i e
  rw [if_pos e] at h
  obtain ⟨b, e2, h3, h4⟩ := h
  exact ⟨b, e2, h3, bheap hb h4⟩
 ·rename_i e
  rw [if_neg e] at h
  exact h
theorem oneRel_new {base k : Nat} {t : TypeId} {x : Value} {vs : List Value} {w' : World} (h : base ≤ w'.heap.size) : oneRel base k t x vs k (.slice (some ⟨w'.heap.size, 0, none⟩) 1 1) (w'.alloc (.cells #[x] t)) := by
 unfold oneRel
 rw [if_pos rfl]
 exact ⟨w'.heap.size, rfl, h, heap_alloc_new w' _⟩
end Go.Proofs.Ytlhpjfnfemebdaa
namespace Go.Proofs.Ytlhpjfnfemebdaa
open Go.RowKit
def doneEB (cs : List Cf) (t : Nat) (i : Nat) (e : Ed) : Bool := decide (e.2.1 = (t : Int)) && decide ((cs.getD e.1.toNat cf0).pc.getD t 0 = (i : Int))
def doneTB (l : List Ed) (cs : List Cf) (t i : Nat) : Bool := l.any (doneEB cs t i)
def doneRow (l : List Ed) (cs : List Cf) (t n : Nat) : List Bool := tab n (doneTB l cs t)
def doneL (l : List Ed) (cs : List Cf) (u : PUn) : List (List Bool) := tab u.code.length (fun t => doneRow l cs t (u.code.getD t []).length)
theorem doneRow_len (l : List Ed) (cs : List Cf) (t n : Nat) : (doneRow l cs t n).length = n := tab_len _ _
theorem doneRow_hit {l : List Ed} {cs : List Cf} {t n k p : Nat} (hk : k < l.length) (ht : (l.getD k (0, 0, 0)).2.1 = (t : Int)) (hp : (cs.getD (l.getD k (0, 0, 0)).1.toNat cf0).pc.getD t 0 = (p : Int)) : (doneRow (l.take k) cs t n).set p true = doneRow (l.take (k + 1)) cs t n := by
 unfold doneRow doneTB
 rw [take_succ_getD (d := (0, 0, 0)) hk]
 refine tab_set _ _ _ _ _ (fun _ => ?_) (fun x _ hx => ?_)
 ·rw [List.any_append, List.any_cons]
  have : doneEB cs t p (l.getD k (0, 0, 0)) = true := by
   unfold doneEB
   rw [decide_eq_true ht, decide_eq_true hp]; rfl
  rw [this]
  simp
 ·rw [List.any_append]
  have : doneEB cs t x (l.getD k (0, 0, 0)) = false := by
   unfold doneEB
   rw [hp]
   have : ¬ ((p : Int) = (x : Int)) := by omega
   simp [this]
  rw [List.any_cons, this, List.any_nil]
  simp
theorem doneRow_miss {l : List Ed} {cs : List Cf} {t n k : Nat} (hk : k < l.length) (ht : ¬ (l.getD k (0, 0, 0)).2.1 = (t : Int)) : doneRow (l.take (k + 1)) cs t n = doneRow (l.take k) cs t n := by
 unfold doneRow doneTB
 rw [take_succ_getD (d := (0, 0, 0)) hk]
 refine tab_congrc _ _ _ fun x _ => ?_
 rw [List.any_append]
 have : doneEB cs t x (l.getD k (0, 0, 0)) = false := by
  unfold doneEB
  rw [decide_eq_false ht]; rfl
 rw [List.any_cons, this, List.any_nil]
 simp
theorem doneRow_zero (cs : List Cf) (t n : Nat) : List.replicate n false = doneRow [] cs t n := by
 unfold doneRow tab
 apply List.ext_getElem?
 intro i
 rw [List.getElem?_replicate, List.getElem?_map]
 by_cases hi : i < n
 ·rw [List.getElem?_range hi, if_pos hi]; rfl
 ·rw [List.getElem?_eq_none (by simp; omega), if_neg hi]; rfl
theorem ownT_made {base g n : Nat} {w : World} {row : List Bool} (hb : base ≤ g) (hg : w.heap[g]? = some (.cells (bools row) 4 (0, 0))) (hn : row.length = n) (hl : n ≤ 1000) : OwnT base w (.slice (some ⟨g, 0, none⟩) n n) row := by
 subst hn
 refine ⟨by simp, .inr ⟨g, row.length, bools row, rfl, hb, hg, Nat.le_refl _, by unfold maxLen; omega, by simp [bools], ?_⟩⟩
 unfold bools
 rw [List.take_of_length_le (by simp)]
structure DnM (base : Nat) (w : World) (ov : Value) (k : Nat) (bs : Nat → Nat) (rows : Nat → List Bool) : Prop where
 own : w.ownsRow base 39 1 ov k (tab k (fun t => .slice (some ⟨bs t, 0, none⟩) (rows t).length (rows t).length))
 blk : ∀ t, t < k → w.heap[bs t]? = some (.cells (bools (rows t)) 4 (0, 0)) ∧ base ≤ bs t
 inj : ∀ t t', t < k → t' < k → bs t = bs t' → t = t'
theorem DnM.nil (base : Nat) (w : World) (bs : Nat → Nat) (rows : Nat → List Bool) : DnM base w (.slice none 0 0) 0 bs rows := ⟨World.ownsRow_nil _ _ _ _, fun t h => by omega, fun t t' h => by omega⟩
theorem DnM.more {base : Nat} {w w' : World} {ov : Value} {k : Nat} {bs : Nat → Nat} {rows : Nat → List Bool} (h : DnM base w ov k bs rows) (hb : Below w.heap.size w w') : DnM base w' ov k bs rows :=
 ⟨ownm h.own hb, fun t ht => ⟨bheap hb (h.blk t ht).1, (h.blk t ht).2⟩, h.inj⟩
theorem DnM.rows {base : Nat} {w : World} {ov : Value} {k : Nat} {bs : Nat → Nat} {rows : Nat → List Bool} (h : DnM base w ov k bs rows) : BRowsAt w ov (tab k rows) := by
 obtain ⟨a, cp, rfl⟩ := ownv h.own
 refine ⟨a, cp, by rw [tab_len], fun j hj => ?_⟩
 rw [tab_len] at hj
 obtain ⟨g, cap, e, -, -⟩ := World.ownsRow.form h.own (by omega)
 cases e
 refine ⟨g, 0, .slice (some ⟨bs j, 0, none⟩) (rows j).length (rows j).length, rfl, ?_, ?_⟩
 ·have := World.ownsRow.cellAt h.own j (by omega)
  rw [Nat.zero_add, this]
  unfold tab
  rw [List.getElem?_map, List.getElem?_range hj]
  rfl
 ·rw [tab_get _ _ _ _ hj]
  exact boolsAt_block (h.blk j hj).1 rfl _
theorem DnM.cell {base : Nat} {w : World} {g cap k : Nat} {bs : Nat → Nat} {rows : Nat → List Bool} (h : DnM base w (.slice (some ⟨g, 0, none⟩) k cap) k bs rows) {t : Nat} (ht : t < k) : w.cell? ⟨g, t, none⟩ = some (.slice (some ⟨bs t, 0, none⟩) (rows t).length (rows t).length) := by
 have := World.ownsRow.cellAt h.own t (by omega)
 rw [this]
 unfold tab
 rw [List.getElem?_map, List.getElem?_range ht]
 rfl
theorem DnM.set {base : Nat} {w : World} {ov : Value} {k : Nat} {bs : Nat → Nat} {rows rows' : Nat → List Bool} (h : DnM base w ov k bs rows) {t : Nat} (ht : t < k) (p : Nat) (h1 : (rows t).set p true = rows' t) (h2 : ∀ x, x < k → x ≠ t → rows x = rows' x) : DnM base (w.setCell ⟨bs t, p, none⟩ (.bool true)) ov k bs rows' := by
 obtain ⟨hb, hbb⟩ := h.blk t ht
 have hlen : ∀ x, x < k → (rows' x).length = (rows x).length := fun x hx => by
  by_cases e : x = t
  ·subst e; rw [← h1, List.length_set]
  ·rw [h2 x hx e]
 refine ⟨?_, fun x hx => ?_, h.inj⟩
 ·have := own_setT (i := p) h.own hb (by decide) (.bool true)
  rwa [tab_congrc k (fun t => Value.slice (some ⟨bs t, 0, none⟩) (rows t).length (rows t).length) (fun t => .slice (some ⟨bs t, 0, none⟩) (rows' t).length (rows' t).length) (fun j hj => by show Value.slice _ _ _ = Value.slice _ _ _; rw [hlen j hj])] at this
 ·by_cases e : x = t
  ·subst e
   refine ⟨?_, hbb⟩
   rw [← h1, ← bools_set]
   exact heap_setCell_block hb p (.bool true)
  ·obtain ⟨hx1, hx2⟩ := h.blk x hx
   refine ⟨?_, hx2⟩
   rw [heap_set_ne (fun e2 => e (h.inj x t hx ht e2)), ← h2 x hx e]
   exact hx1
theorem DnM.push {base : Nat} {w w1 w' : World} {ov ov' : Value} {k b : Nat} {bs : Nat → Nat} {rows : Nat → List Bool} (h : DnM base w ov k bs rows) (hbase : base ≤ w.heap.size) (hb : Below w.heap.size w w1) (hn : w1.heap[b]? = some (.cells (bools (rows k)) 4 (0, 0))) (hnb : w.heap.size ≤ b)
  (hg : w1.grownBy w' ov.ownBlock) (hown : w'.ownsRow base 39 1 ov' (k + 1) (tab k (fun t => .slice (some ⟨bs t, 0, none⟩) (rows t).length (rows t).length) ++ [.slice (some ⟨b, 0, none⟩) (rows k).length (rows k).length])) : DnM base w' ov' (k + 1) (fun t => if t = k then b else bs t) rows := by
 have hlt : ∀ t, t < k → bs t < w.heap.size := fun t ht => (Array.getElem?_eq_some_iff.1 (h.blk t ht).1).1
 have hh : ∀ (q : Nat) (row : List Bool), w1.heap[q]? = some (.cells (bools row) 4 (0, 0)) → w'.heap[q]? = some (.cells (bools row) 4 (0, 0)) := fun q row hq => by
  have hq1 := (Array.getElem?_eq_some_iff.1 hq).1
  rw [hg.block q hq1 (fun e => by
   have h3 := ownm h.own hb
   obtain ⟨-, h'⟩ := h3
   rcases h' with ⟨rfl, -⟩ | ⟨g, cap, cur, rfl, -, hgg, -⟩
   ·cases e
   ·have e3 : q = g := by simpa [Value.ownBlock] using e
    rw [e3, hgg] at hq
    cases hq)]
  exact hq
 refine ⟨?_, fun t ht => ?_, fun t t' ht ht' e => ?_⟩
 ·rw [tab_snoc]
  simp only [if_true]
  rw [tab_congrc k (fun t => Value.slice (some ⟨if t = k then b else bs t, 0, none⟩) (rows t).length (rows t).length) (fun t => .slice (some ⟨bs t, 0, none⟩) (rows t).length (rows t).length) (fun j hj => by show Value.slice _ _ _ = Value.slice _ _ _; rw [if_neg (by omega)])]
  exact hown
 ·by_cases e : t = k
  ·subst e
   simp only [if_true]
   exact ⟨hh _ _ hn, by omega⟩
  ·simp only [if_neg e]
   obtain ⟨h1, h2⟩ := h.blk t (by omega)
   exact ⟨hh _ _ (bheap hb h1), h2⟩
 ·by_cases e1 : t = k
  ·by_cases e2 : t' = k
   ·omega
   ·rw [if_pos e1, if_neg e2] at e
    have := hlt t' (by omega)
    omega
  ·by_cases e2 : t' = k
   ·rw [if_neg e1, if_pos e2] at e
    have := hlt t (by omega)
    omega
   ·rw [if_neg e1, if_neg e2] at e
    exact h.inj t t' (by omega) (by omega) e
end Go.Proofs.Ytlhpjfnfemebdaa
namespace Go.Proofs.Ytlhpjfnfemebdaa
def firstF (p : List Int → Bool) (rows : List (List Int)) : List Int := (rows.find? p).getD []
theorem firstF_at {p : List Int → Bool} : ∀ {rows : List (List Int)} {k : Nat}, k < rows.length → (∀ j, j < k → p (rows.getD j []) = false) → p (rows.getD k []) = true → firstF p rows = rows.getD k []
 | [], k, hk, _, _ => by simp at hk
 | r :: rows, 0, _, _, h => by
  have h' : p r = true := h
  unfold firstF
  rw [List.find?_cons_of_pos h']; rfl
 | r :: rows, k + 1, hk, ha, h => by
  have h0 : ¬ p r = true := by rw [show p r = false from ha 0 (by omega)]; simp
  have := firstF_at (rows := rows) (k := k) (by simpa using hk) (fun j hj => by simpa using ha (j + 1) (by omega)) (by simpa using h)
  unfold firstF at this ⊢
  rw [List.find?_cons_of_neg h0, this]; simp
theorem firstF_none {p : List Int → Bool} {rows : List (List Int)} (h : ∀ j, j < rows.length → p (rows.getD j []) = false) : firstF p rows = [] := by
 unfold firstF
 rw [List.find?_eq_none.2 ?_]; rfl
 intro r hr
 obtain ⟨j, hj, rfl⟩ := List.getElem_of_mem hr
 have := h j hj
 rw [List.getD_eq_getElem?_getD, List.getElem?_eq_getElem hj] at this
 simpa using this
theorem mem_getD {rows : List (List Int)} {k : Nat} (h : k < rows.length) : rows.getD k [] ∈ rows := by simp [List.getD, h]
theorem grpI_mem {ps : List Int} {inn : Nat → Bool} {r : List Int} (h : r ∈ grpI ps inn) : ∃ j, j < ps.length ∧ inn j = true ∧ r = (rowOf (fun k => ps.getD k 0) inn ps.length (ps.getD j 0)).map (fun k : Nat => (k : Int)) := by
 unfold grpI rowsI grp at h
 simp only [List.mem_map] at h
 obtain ⟨r', ⟨j, hj, rfl⟩, rfl⟩ := h
 obtain ⟨h1, h2⟩ := mem_firsts.1 hj
 exact ⟨j, h1, (isF_iff.1 h2).1, rfl⟩
theorem rowOf_nodup (q : Nat → Int) (inn : Nat → Bool) (n : Nat) (p : Int) : ((rowOf q inn n p).map (fun k : Nat => (k : Int))).Nodup := by
 have h : (rowOf q inn n p).Pairwise (· < ·) := List.Pairwise.filter _ List.pairwise_lt_range
 exact List.Pairwise.map (fun k : Nat => (k : Int)) (fun a b hab => by show (a : Int) ≠ (b : Int); omega) h
theorem grpI_row {ps : List Int} {inn : Nat → Bool} {r : List Int} (h : r ∈ grpI ps inn) : r.Nodup ∧ r.length ≤ ps.length ∧ ∀ x ∈ r, ∃ i : Nat, x = (i : Int) ∧ i < ps.length ∧ inn i = true := by
 obtain ⟨j, -, -, rfl⟩ := grpI_mem h
 refine ⟨rowOf_nodup _ _ _ _, by rw [List.length_map]; exact rowOf_len _ _, fun x hx => ?_⟩
 obtain ⟨i, hi, rfl⟩ := List.mem_map.1 hx
 obtain ⟨h1, h2, -⟩ := mem_rowOf.1 hi
 exact ⟨i, rfl, h1, h2⟩
theorem grpI_len (ps : List Int) (inn : Nat → Bool) : (grpI ps inn).length ≤ ps.length := by
 unfold grpI; rw [rowsI_len]; exact grp_len _
theorem groupsI_row {g : Gr} {r : List Int} (h : r ∈ groupsI g) : r.length ≤ nodesN g ∧ ∀ x ∈ r, 0 ≤ x ∧ x < (nodesN g : Int) := by
 obtain ⟨-, h1, h2⟩ := grpI_row h
 rw [partsI_len] at h1 h2
 exact ⟨h1, fun x hx => by obtain ⟨i, rfl, hi, -⟩ := h2 x hx; omega⟩
theorem groupsI_len (g : Gr) : (groupsI g).length ≤ nodesN g := by
 have := grpI_len (partsI g) (fun _ => true)
 rw [partsI_len] at this
 exact this
end Go.Proofs.Ytlhpjfnfemebdaa
namespace Go.Proofs.Ytlhpjfnfemebdaa
end Go.Proofs.Ytlhpjfnfemebdaa
namespace Go.Proofs.Ytlhpjfnfemebdaa
open Go.RowKit
noncomputable def weakL (g : Gr) (en : List (List Bool)) (ag : Int) : List Int := if rtB g en ag = true then firstF (fairB g en spW ag.toNat) (groupsI g) else []
open Classical in
theorem rtB_rt {g : Gr} {en : List (List Bool)} {ag : Int} (h : rtB g en ag = true) : RT g en ag := of_decide_eq_true h
theorem RT.nat {g : Gr} {en : List (List Bool)} {ag : Int} (h : RT g en ag) : ∃ A : Nat, ag = (A : Int) ∧ A ≤ 100 ∧ ∀ i, i < en.length → (en.getD i []).length = A :=
 ⟨ag.toNat, by have := h.h0; omega, by have := h.h1; have := h.h0; omega, fun i hi => by have := h.rows i hi; have := h.h0; omega⟩
set_option maxRecDepth 100000 in
set_option maxHeartbeats 16000000 in
theorem rweak_ok (v u : Value) (g : Gr) (en : List (List Bool)) (ag : Int) (w : World) (h : GraphAt w v g) (hu : BRowsAt w u en) (hn : nodesN g ≤ 100000) :
  Calls Try.prog 24 #[v, u, .int .i64 ag] w (IntsBack w (weakL g en ag)) := by
 obtain ⟨sa, aa, ta, sc, ac, tc, rfl, -⟩ := h.var
 have hb := balloc w (.cells #[.slice sa g.S.length sc, .slice aa g.A.length ac, .slice ta g.T.length tc] 30)
 have HB := Lib.hid hb
 have X0 := Lib.hid (heap_alloc_new w (.cells #[.slice sa g.S.length sc, .slice aa g.A.length ac, .slice ta g.T.length tc] 30))
 have HR := Lib.hid (rrt_ok _ u g en ag _ (h.below hb) (hu.below hb))
 cases hr : rtB g en ag
 ·have E : weakL g en ag = [] := by unfold weakL; rw [hr]; rfl
  rw [hr] at HR
  rw [E]
  clear h hb hu hr E
  go_enter Try.func24, Try.ntmps24
  go_wp2_with (go_at_call 37; refine HR.out.mono ?_; rintro e w1 ⟨rfl, hb1⟩; have HB1 := Lib.hid (HB.out.trans (hb1.mono HB.out.size)); clear hb1)
  go_ret
  exact ⟨_, rfl, intsAt_nil _, HB1.out⟩
 have hRT := rtB_rt hr
 obtain ⟨A, rfl, hA, hrows⟩ := hRT.nat
 have E : weakL g en (A : Nat) = firstF (fairB g en spW A) (groupsI g) := by unfold weakL; rw [hr, if_pos rfl, Int.toNat_natCast]
 rw [hr] at HR
 rw [E]
 have hlen := hRT.len
 have HI := Lib.hid (fun k (hk : k < (groupsI g).length) => groupsI_row (mem_getD hk))
 have HF := Lib.hid (fun (w' : World) (hb : Below w.heap.size w w') (pv : Value) (part : List Int) (hp : IntsAt w' pv part) (hi : part.length ≤ nodesN g ∧ ∀ x ∈ part, 0 ≤ x ∧ x < (nodesN g : Int)) =>
  rfair_weak _ u pv g en A part w' (h.below hb) (hu.below hb) hp hA hrows (fun x hx => by have := hi.2 x hx; omega) (by omega) (by omega))
 have HG := Lib.hid (fun (w' : World) (hb : Below w.heap.size w w') => rgroupsF_ok _ g w' (h.below hb) hn)
 have GL := groupsI_len g
 obtain ⟨ua, uc, rfl, -⟩ := hu
 have FA := Lib.hid (fun k hk ha hp => firstF_at (p := fairB g en spW A) (rows := groupsI g) (k := k) hk ha hp)
 have FN := Lib.hid (firstF_none (p := fairB g en spW A) (rows := groupsI g))
 rw [← groups_eq] at HG
 clear h hb hr E hRT hlen hrows
 generalize groupsI g = rows at *
 generalize firstF (fairB g en spW A) rows = RES at *
 generalize fairB g en spW A = FB at *
 go_enter Try.func24, Try.ntmps24
 go_wp2_with (first
  | (go_at_call 37; refine HR.out.mono ?_; rintro e w1 ⟨rfl, hb1⟩; have HB1 := Lib.hid (HB.out.trans (hb1.mono HB.out.size)); have X1 := Lib.hid (bheap hb1 X0.out); have c0 := cell_of_block X1.out 0 _ rfl; have c1 := cell_of_block X1.out 1 _ rfl; have c2 := cell_of_block X1.out 2 _ rfl; clear hb1)
  | (go_at_call 38; refine (HG.out _ HB1.out).mono ?_; rintro e w3 ⟨rv, rfl, hr3, hb3⟩; obtain ⟨ra, rc, rfl, hr3⟩ := hr3; have HRW := Lib.hid hr3; have HB4 := Lib.hid (HB1.out.trans (hb3.mono HB1.out.size)); have X3 := Lib.hid (bheap hb3 X1.out); clear hb3 hr3))
 clear c0 c1 c2
 go_loopg [8] rows.length (fun fu c wr => ∃ k : Nat, k + fu = rows.length ∧ c = .int .i64 k ∧ (∀ j, j < k → FB (rows.getD j []) = false) ∧ Hid (Below w3.heap.size w3 wr))
 case atStart => exact ⟨0, by omega, rfl, fun j hj => by omega, Lib.hid (Below.refl _ _)⟩
 case round =>
  obtain ⟨k, hk, rfl, hall, HBR⟩ := hrel
  have HAL := Lib.hid hall
  clear hall
  by_cases hlt : k < rows.length
  ·have z1 : (k : Int) < (rows.length : Int) := by omega
   obtain ⟨b1, o1, pv, rfl, d1, hp⟩ := HRW.out k hlt
   have hi := HI.out k hlt
   have y1 := bkeep HBR.out d1
   have hx := bheap HBR.out X3.out
   have c0 := cell_of_block hx 0 _ rfl
   have c1 := cell_of_block hx 1 _ rfl
   have c2 := cell_of_block hx 2 _ rfl
   have HBW := Lib.hid (HB4.out.trans (HBR.out.mono HB4.out.size))
   have HPV := Lib.hid (hp.below HBR.out)
   have HFF := Lib.hid (fun (i : Sub wr) => HF.out i.1 (HBW.out.trans (i.2.mono HBW.out.size)) pv (rows.getD k []) (HPV.out.below i.2) hi)
   have HAT := Lib.hid (FA.out k hlt HAL.out)
   have HNX : Hid (FB (rows.getD k []) = false → ∀ a, a < k + 1 → FB (rows.getD a []) = false) := Lib.hid (fun hne a ha => by
    by_cases e : a = k
    ·rw [e]; exact hne
    ·exact HAL.out a (by omega))
   clear d1 hx hp hi
   generalize rows.getD k [] = part at *
   obtain ⟨pa, pc, rfl, hpp⟩ := HPV.out
   have HPP := Lib.hid hpp
   clear hpp
   have f0 : ∀ i : Sub wr, i.1.cell? ⟨w.heap.size, 0, none⟩ = some (.slice sa g.S.length sc) := fun i => i.cell c0
   have f1 : ∀ i : Sub wr, i.1.cell? ⟨w.heap.size, 1, none⟩ = some (.slice aa g.A.length ac) := fun i => i.cell c1
   have f2 : ∀ i : Sub wr, i.1.cell? ⟨w.heap.size, 2, none⟩ = some (.slice ta g.T.length tc) := fun i => i.cell c2
   have f3 : ∀ i : Sub wr, i.1.cell? ⟨b1, o1 + k, none⟩ = some (.slice pa part.length pc) := fun i => i.cell y1
   cases hf : FB part
   ·rw [hf] at HFF
    go_wp2_with fail
    refine region_below (by kernel_rfl) (by kernel_rfl) ?_
    repeat (go_big_quiet_step ((go_at_call 39; exact Calls.sub_of (HFF.out _))))
    refine wpQuiet_nil ?_
    intro w4 hb4
    have HB5 := Lib.hid (HBR.out.trans (hb4.mono HBR.out.size))
    clear hb4
    go_wp2_with fail
    go_roundg (rows.length - (k + 1))
    case measure => omega
    case rel => exact ⟨k + 1, by omega, by simp, HNX.out hf, HB5⟩
   ·rw [hf] at HFF
    have E := Lib.hid (HAT.out hf)
    go_wp2_with fail
    refine region_below (by kernel_rfl) (by kernel_rfl) ?_
    repeat (go_big_quiet_step ((go_at_call 39; exact Calls.sub_of (HFF.out _))))
    refine wpQuiet_nil ?_
    intro w4 hb4
    have HB5 := Lib.hid (HBW.out.trans (hb4.mono HBW.out.size))
    have HP5 := Lib.hid (HPV.out.below hb4)
    have y4 := bkeep hb4 y1
    clear hb4
    go_wp2_with fail
    go_ret
    exact ⟨_, rfl, by rw [E.out]; exact HP5.out, HB5.out⟩
  ·obtain rfl : k = rows.length := by omega
   have E := Lib.hid (FN.out HAL.out)
   go_wp2_with fail
   go_ret
   exact ⟨_, rfl, by rw [E.out]; exact intsAt_nil _, HB4.out.trans (HBR.out.mono HB4.out.size)⟩
end Go.Proofs.Ytlhpjfnfemebdaa
namespace Go.Proofs.Ytlhpjfnfemebdaa
open Go.RowKit
end Go.Proofs.Ytlhpjfnfemebdaa
namespace Go.Proofs.Ytlhpjfnfemebdaa
open Go.RowKit
end Go.Proofs.Ytlhpjfnfemebdaa
namespace Go.Proofs.Ytlhpjfnfemebdaa
open Go.RowKit
end Go.Proofs.Ytlhpjfnfemebdaa
namespace Go.Proofs.Ytlhpjfnfemebdaa
open Go.RowKit
end Go.Proofs.Ytlhpjfnfemebdaa
namespace Go.Proofs.Ytlhpjfnfemebdaa
open Go.RowKit
end Go.Proofs.Ytlhpjfnfemebdaa
namespace Go.Proofs.Ytlhpjfnfemebdaa
open Go.RowKit
end Go.Proofs.Ytlhpjfnfemebdaa
namespace Go.Proofs.Ytlhpjfnfemebdaa
open Go.RowKit
theorem Pth.first {E : Nat → Nat → Prop} {i k : Nat} (h : Pth E i k) : i = k ∨ ∃ x, E i x ∧ Pth E x k := by
 induction h with
 | refl => exact .inl rfl
 | step hp he ih =>
  rename_i j k
  right
  rcases ih with rfl | ⟨x, hx, hxj⟩
  ·exact ⟨k, he, .refl k⟩
  ·exact ⟨x, hx, .step hxj he⟩
def spinP (g : Gr) (i : Nat) : Prop := ∃ x, Eg g i x ∧ Pth (Eg g) x i
open Classical in
noncomputable def spinL (g : Gr) (n : Nat) : List Int := ((List.range n).filter (fun i => decide (spinP g i))).map (fun k : Nat => (k : Int))
theorem groups_part {g : Gr} {r : List Int} (h : r ∈ groupsI g) {i : Nat} (hi : (i : Int) ∈ r) : i < nodesN g ∧ ∀ k : Nat, k < nodesN g → ((k : Int) ∈ r ↔ SC g i k) := by
 obtain ⟨j, -, -, rfl⟩ := grpI_mem h
 obtain ⟨i', hi', e⟩ := List.mem_map.1 hi
 obtain rfl : i' = i := by omega
 obtain ⟨h1, -, h3⟩ := mem_rowOf.1 hi'
 rw [partsI_len] at h1
 refine ⟨h1, fun k hk => ?_⟩
 rw [← partN_eq]
 have e1 := partsI_get h1
 have e2 := partsI_get hk
 constructor
 ·intro hm
  obtain ⟨k', hk', e⟩ := List.mem_map.1 hm
  obtain rfl : k' = k := by omega
  obtain ⟨-, -, h6⟩ := mem_rowOf.1 hk'
  rw [← h3, e1, e2] at h6
  omega
 ·intro he
  refine List.mem_map.2 ⟨k, mem_rowOf.2 ⟨by rw [partsI_len]; exact hk, rfl, ?_⟩, rfl⟩
  rw [← h3, e1, e2, he]
theorem in_group {g : Gr} {i : Nat} (hi : i < nodesN g) : ∃ r ∈ groupsI g, (i : Int) ∈ r := by
 unfold groupsI grpI
 obtain ⟨j, hj, he, -⟩ := has_first (q := fun k => (partsI g).getD k 0) (inn := fun _ => true) (i + 1) (partsI g).length i (by omega) (by rw [partsI_len]; exact hi) rfl
 refine ⟨(rowOf (fun k => (partsI g).getD k 0) (fun _ => true) (partsI g).length ((partsI g).getD j 0)).map (fun k : Nat => (k : Int)), ?_, ?_⟩
 ·unfold rowsI grp
  exact List.mem_map.2 ⟨_, List.mem_map.2 ⟨j, hj, rfl⟩, rfl⟩
 ·exact List.mem_map.2 ⟨i, mem_rowOf.2 ⟨by rw [partsI_len]; exact hi, rfl, he.symm⟩, rfl⟩
theorem spin_groups {g : Gr} (h : Rt g) {i : Nat} (hi : i < nodesN g) : (∃ r ∈ groupsI g, cycB g r = true ∧ (i : Int) ∈ r) ↔ spinP g i := by
 constructor
 ·rintro ⟨r, hr, hc, him⟩
  obtain ⟨-, hsc⟩ := groups_part hr him
  unfold cycB at hc
  obtain ⟨e, he, h1, h2⟩ := of_decide_eq_true hc
  have hm := allL_mem h he
  have hn := nodesN_right h
  obtain ⟨a, ha⟩ : ∃ a : Nat, e.1 = (a : Int) := ⟨e.1.toNat, by omega⟩
  obtain ⟨b, hb⟩ : ∃ b : Nat, e.2.2 = (b : Int) := ⟨e.2.2.toNat, by omega⟩
  rw [ha] at h1
  rw [hb] at h2
  have s1 := (hsc a (by omega)).1 h1
  have s2 := (hsc b (by omega)).1 h2
  have hab : Eg g a b := ⟨e, he, ha, hb⟩
  rcases s1.1.first with rfl | ⟨x, hx, hxa⟩
  ·exact ⟨b, hab, s2.2⟩
  ·exact ⟨x, hx, (hxa.step hab).trans s2.2⟩
 ·rintro ⟨x, hx, hxi⟩
  obtain ⟨r, hr, him⟩ := in_group hi
  obtain ⟨-, hsc⟩ := groups_part hr him
  refine ⟨r, hr, ?_, him⟩
  obtain ⟨e, he, h1, h2⟩ := hx
  have hm := allL_mem h he
  have hn := nodesN_right h
  have hxm : (x : Int) ∈ r := (hsc x (by omega)).2 ⟨.one ⟨e, he, h1, h2⟩, hxi⟩
  unfold cycB
  exact decide_eq_true ⟨e, he, by rw [h1]; exact him, by rw [h2]; exact hxm⟩
theorem rch_many {g : Gr} (h : Rt g) {n : Nat} {fr : List Int} {j : Int} (hr : Rch (allL g) (Src n fr) j) : 0 ≤ j ∧ ∃ x : Nat, (x : Int) ∈ fr ∧ x < n ∧ Pth (Eg g) x j.toNat := by
 induction hr with
 | base h' =>
  obtain ⟨h1, h2, h3⟩ := h'
  rename_i i
  refine ⟨h2, i.toNat, by rwa [Int.toNat_of_nonneg h2], by omega, .refl _⟩
 | step hr' he ih =>
  rename_i e
  obtain ⟨h0, x, hx, hn, hp⟩ := ih
  have := allL_mem h he
  exact ⟨by omega, x, hx, hn, .step hp ⟨e, he, by omega, by omega⟩⟩
theorem spin_reach {g : Gr} (h : Rt g) {i : Nat} (hi : i < nodesN g) : (reachL g ((outL g (i : Int)).map (fun e => e.2.2))).getD i false = true ↔ spinP g i := by
 rw [reachL_get h _ hi]
 constructor
 ·intro hr
  obtain ⟨-, x, hx, -, hp⟩ := rch_many h hr
  obtain ⟨e, he, h1⟩ := List.mem_map.1 hx
  obtain ⟨he1, he2⟩ := outL_mem.1 he
  rw [Int.toNat_natCast] at hp
  exact ⟨x, ⟨e, he1, he2, h1⟩, hp⟩
 ·rintro ⟨x, ⟨e, he, h1, h2⟩, hp⟩
  have hm := allL_mem h he
  have hn := nodesN_right h
  refine (pth_rch (n := nodesN g) (by omega) hp).mono (fun e he => he) fun j hj => ?_
  obtain ⟨h3, h4, h5⟩ := hj
  rw [List.mem_singleton] at h3
  exact ⟨List.mem_map.2 ⟨e, outL_mem.2 ⟨he, h1⟩, by rw [h2, h3]⟩, h4, h5⟩
theorem RowsM.st {w : World} {base : Nat} {ov : Value} {rows : List (List Int)} {vals : List Value} (h : RowsM w base ov rows vals) {F : Nat → Prop} (hF : ∀ q, F q → q < base) : St F (fun w => RowsAt w ov rows) w := fun w' k => by
 refine RowsM.at (h.frm k (fun q e hq => ?_) (fun j hj q e hq => ?_))
 ·have := (World.ownsRow.lt h.out q e).1; have := hF q hq; omega
 ·have := (World.ownsRow.lt (h.inn j hj) q e).1; have := hF q hq; omega
theorem bools_only {xs : List Bool} {i : Nat} {u : Value} (h : (bools xs)[i]? = some u) : ∃ b, u = .bool b := by
 unfold bools at h
 rw [List.getElem?_toArray, List.getElem?_map] at h
 cases hx : xs[i]? with
 | none => rw [hx] at h; cases h
 | some b => rw [hx] at h; exact ⟨b, by cases h; rfl⟩
theorem cell_in_block {w : World} {b o : Nat} {c : Array Value} {t : TypeId} {fr : Nat × Nat} {u : Value} (hb : w.heap[b]? = some (.cells c t fr)) (h : w.cell? ⟨b, o, none⟩ = some u) : c[o]? = some u := by
 unfold World.cell? at h
 simp only [hb] at h
 simpa using h
def onK (on : List Bool) (k : Nat) : List Int := ((List.range k).filter (fun i => on.getD i false)).map (fun k : Nat => (k : Int))
theorem onK_succ (on : List Bool) (k : Nat) : onK on (k + 1) = if on.getD k false = true then onK on k ++ [(k : Int)] else onK on k := by
 unfold onK
 rw [List.range_succ, List.filter_append, List.map_append, List.filter_cons, List.filter_nil]
 by_cases h : on.getD k false = true
 ·rw [if_pos h, if_pos h]; rfl
 ·rw [if_neg h, if_neg h, List.map_nil, List.append_nil]
theorem onK_len (on : List Bool) (k : Nat) : (onK on k).length ≤ k := by
 unfold onK
 rw [List.length_map]
 exact Nat.le_trans (List.length_filter_le _ _) (by simp)
open Classical in
theorem onK_spin {g : Gr} {n : Nat} {on : List Bool} (h : ∀ i, i < n → (on.getD i false = true ↔ spinP g i)) : onK on n = spinL g n := by
 unfold onK spinL
 congr 1
 apply List.filter_congr
 intro i hi
 have := h i (List.mem_range.1 hi)
 cases h1 : on.getD i false
 ·rw [h1] at this
  exact (decide_eq_false (fun hc => by have := this.2 hc; cases this)).symm
 ·rw [h1] at this
  exact (decide_eq_true (this.1 rfl)).symm
set_option maxRecDepth 100000 in
set_option maxHeartbeats 32000000 in
theorem spins_ok (v : Value) (s : Sp) (w : World) (h : SpV w v s) (hok : buildOk (s.confs.length : Int) s.ed = true) (hn : s.confs.length ≤ 500) :
  Calls Try.prog 19 #[v] w fun r w' => ∃ rv, r = .returned rv ∧ IntsAt w' rv (spinL (buildG (s.confs.length : Int) s.ed) s.confs.length) ∧ Below w.heap.size w w' := by
 obtain ⟨i0, hi0, hz0, hz1, hz2⟩ := info_parts Try.info3
 obtain ⟨vC, sa, sc, aa, ac, ta, tc, vP, vA, rfl, hC, hG, -, -⟩ := h.var
 obtain ⟨ca, cc, rfl, -⟩ := hC
 obtain ⟨hRt, hnn, -, -⟩ := sp_right hok
 have HGR := Lib.hid (fun (w' : World) (hb : Below w.heap.size w w') => groupsF_new _ _ w' (hG.below hb) (by rw [hnn]; omega))
 have HCY := Lib.hid (fun (w' : World) (hb : Below w.heap.size w w') (u : Value) (l : List Int) (hu : IntsAt w' u l) (hw : ∀ x ∈ l, (Lit.int .i64 x).wf = true) (hl : l.length ≤ 1000000) => cyc_ok _ u _ l w' (hG.below hb) hu hw hl)
 have HSP := Lib.hid (fun (i : Nat) (hi : i < nodesN (buildG (s.confs.length : Int) s.ed)) => spin_groups hRt hi)
 have HRL := Lib.hid (fun (r : List Int) (hr : r ∈ groupsI (buildG (s.confs.length : Int) s.ed)) => groupsI_row hr)
 have HGL := groupsI_len (buildG (s.confs.length : Int) s.ed)
 rw [hnn] at HSP HRL HGL
 clear h hG hok hnn hRt
 generalize buildG (s.confs.length : Int) s.ed = g at *
 generalize groupsI g = gr at *
 generalize cycB g = CY at *
 generalize g.S.length = nS at *
 generalize g.A.length = nA at *
 generalize g.T.length = nT at *
 generalize s.confs.length = n at *
 have X0 := Lib.hid (heap_alloc_new w (.cells #[.slice ca n cc, .slice sa nS sc, .slice aa nA ac, .slice ta nT tc, vP, vA] 32))
 have HB := Lib.hid (balloc w (.cells #[.slice ca n cc, .slice sa nS sc, .slice aa nA ac, .slice ta nT tc, vP, vA] 32))
 go_enter Try.func19, Try.ntmps19
 go_wp2_with (first
  | (go_at_call 32; refine (HGR.out _ S3.out.below).mono ?_; rintro e1 w4 ⟨rv, rfl, ⟨vals, hM⟩, hb4⟩; have S4 := Lib.hid (S3.out.more hb4); have R4 := Lib.hid (hM.st (F := fun q => q = (w.heap.size + 1)) (fun q hq => by have := S3.out.size; omega)); obtain ⟨ra, rc, rfl⟩ := hM.var; clear hM hb4 S3 c1 c2 c3)
  | (at_make; refine wpList_make_one _ rfl (.tmp 13) (.tmp 13) 39 rfl 4 (.bool false) rfl 1 Try.underlying39 Try.info4 .i64 .i64 (n : Nat) (n : Nat) n rfl rfl rfl rfl (by omega) (by unfold maxLen; omega) ?_; intro w3 hh3 hb3 hlt3; have S3 : Hid (Bx2 w w3 #[.slice ca n cc, .slice sa nS sc, .slice aa nA ac, .slice ta nT tc, vP, vA] 32 (bools (List.replicate n false)) 4) := Lib.hid ⟨HB.out.trans (hb3.mono HB.out.size), bheap hb3 X0.out, by rw [bools_replicate]; simpa using hh3⟩; clear hh3 hb3 hlt3 X0 HB; have c1 := cell_of_block S3.out.blk1 1 (.slice sa nS sc) rfl; have c2 := cell_of_block S3.out.blk1 2 (.slice aa nA ac) rfl; have c3 := cell_of_block S3.out.blk1 3 (.slice ta nT tc) rfl))
 go_loopg [19] gr.length (fun fu c wr => ∃ (k : Nat) (on : List Bool), k + fu = gr.length ∧ c = .int .i64 k ∧ on.length = n ∧ Hid (∀ i, i < n → (on.getD i false = true ↔ ∃ j, j < k ∧ CY (gr.getD j []) = true ∧ (i : Int) ∈ gr.getD j [])) ∧ Hid (St (fun q => q = (w.heap.size + 1)) (fun w => RowsAt w (.slice ra gr.length rc) gr) wr) ∧ Hid (Bx2 w wr #[.slice ca n cc, .slice sa nS sc, .slice aa nA ac, .slice ta nT tc, vP, vA] 32 (bools on) 4))
 case atStart => exact ⟨0, _, by omega, rfl, by simp, Lib.hid (fun i hi => ⟨fun h => by simp [List.getD, hi] at h, fun ⟨j, hj, _⟩ => by omega⟩), R4, S4⟩
 case round =>
  clear R4 S4
  obtain ⟨k, on, hk, rfl, hlen, HO, RS, S⟩ := hrel
  by_cases hlt : k < gr.length
  ·have z1 : (k : Int) < (gr.length : Int) := by omega
   obtain ⟨ra', rc', e0, hR⟩ := RS.out.now
   cases e0
   obtain ⟨b1, o1, u1, rfl, y1, hrow⟩ := hR k hlt
   have hgm : gr.getD k [] ∈ gr := by simp [List.getD, hlt]
   obtain ⟨hrl, hrn⟩ := HRL.out _ hgm
   have HRN := Lib.hid hrn
   have c1 := cell_of_block S.out.blk1 1 (.slice sa nS sc) rfl
   have c2 := cell_of_block S.out.blk1 2 (.slice aa nA ac) rfl
   have c3 := cell_of_block S.out.blk1 3 (.slice ta nT tc) rfl
   have HRW : Hid (St (fun q => q = (w.heap.size + 1)) (fun w => IntsAt w u1 (gr.getD k [])) wr) := Lib.hid (fun w' kf => by
    obtain ⟨ra', rc', e0, hR⟩ := RS.out w' kf
    obtain ⟨b1', o1', u1', e1, y1', hrow'⟩ := hR k hlt
    simp only [Value.slice.injEq, true_and] at e0
    obtain ⟨e2, -⟩ := e0
    rw [← e2] at e1
    cases e1
    have hne : b1 ≠ w.heap.size + 1 := fun hc => by
     have hb := S.out.blk2
     rw [← hc] at hb
     obtain ⟨q, hq⟩ := bools_only (cell_in_block hb y1)
     obtain ⟨x1, x2, e3, -⟩ := hrow
     rw [e3] at hq
     cases hq
    have hlt' := World.block_lt_of_cell? wr ⟨b1, o1 + k, none⟩ y1
    have hkb := kf.block b1 hlt' hne
    have : w'.cell? ⟨b1, o1 + k, none⟩ = wr.cell? ⟨b1, o1 + k, none⟩ := by unfold World.cell?; rw [hkb]
    rw [this, y1] at y1'
    cases y1'
    exact hrow')
   obtain ⟨ua, uc, rfl, -⟩ := id hrow
   have HC := Lib.hid (HCY.out wr S.out.below _ _ hrow (fun x hx => by have := hrn x hx; simp only [Lit.wf, Bool.and_eq_true, decide_eq_true_eq, show IntKind.i64.min = -9223372036854775808 by decide, show IntKind.i64.max = 9223372036854775807 by decide]; omega) (by omega))
   have HKS : Hid (∀ i : Nat, (∃ j, j < k + 1 ∧ CY (gr.getD j []) = true ∧ (i : Int) ∈ gr.getD j []) ↔ (∃ j, j < k ∧ CY (gr.getD j []) = true ∧ (i : Int) ∈ gr.getD j []) ∨ (CY (gr.getD k []) = true ∧ (i : Int) ∈ gr.getD k [])) := Lib.hid (fun i => by
    constructor
    ·rintro ⟨j, hj, h1, h2⟩
     by_cases e : j = k
     ·subst e; exact .inr ⟨h1, h2⟩
     ·exact .inl ⟨j, by omega, h1, h2⟩
    ·rintro (⟨j, hj, h1, h2⟩ | ⟨h1, h2⟩)
     ·exact ⟨j, by omega, h1, h2⟩
     ·exact ⟨k, by omega, h1, h2⟩)
   clear hR hrow hgm hrn
   generalize gr.getD k [] = row at *
   cases hcy : CY row
   ·rw [hcy] at HC
    have HN : Hid (∀ i, i < n → (on.getD i false = true ↔ ∃ j, j < k + 1 ∧ CY (gr.getD j []) = true ∧ (i : Int) ∈ gr.getD j [])) := Lib.hid (fun i hi => by
     rw [HKS.out i, HO.out i hi]
     constructor
     ·exact .inl
     ·rintro (h | ⟨h, -⟩)
      ·exact h
      ·rw [hcy] at h; cases h)
    clear HKS HO hcy
    go_wp2_with (go_at_call 33; refine HC.out.mono ?_; rintro e1 w5 ⟨rfl, hb5⟩; have S5 := Lib.hid (S.out.more hb5); have RS5 := Lib.hid (RS.out.more hb5); clear hb5 S RS c1 c2 c3 y1)
    go_roundg (gr.length - (k + 1))
    case measure => omega
    case rel => exact ⟨k + 1, _, by omega, by simp, hlen, HN, RS5, S5⟩
   ·rw [hcy] at HC
    have HCC := Lib.hid hcy
    clear hcy
    go_wp2_with (go_at_call 33; refine HC.out.mono ?_; rintro e1 w5 ⟨rfl, hb5⟩; have S5 := Lib.hid (S.out.more hb5); have RS5 := Lib.hid (RS.out.more hb5); have RW5 := Lib.hid (HRW.out.more hb5); clear hb5 S RS HRW c1 c2 c3 y1)
    go_loopg [29] row.length (fun fu c wr => ∃ (q : Nat) (on' : List Bool), q + fu = row.length ∧ c = .int .i64 q ∧ on'.length = n ∧ Hid (∀ i, i < n → (on'.getD i false = true ↔ (∃ j, j < k ∧ CY (gr.getD j []) = true ∧ (i : Int) ∈ gr.getD j []) ∨ (i : Int) ∈ row.take q)) ∧ Hid (St (fun q => q = (w.heap.size + 1)) (fun w => RowsAt w (.slice (some ⟨b1, o1, none⟩) gr.length rc) gr) wr) ∧ Hid (St (fun q => q = (w.heap.size + 1)) (fun w => IntsAt w (.slice ua row.length uc) row) wr) ∧ Hid (Bx2 w wr #[.slice ca n cc, .slice sa nS sc, .slice aa nA ac, .slice ta nT tc, vP, vA] 32 (bools on') 4))
    case atStart => exact ⟨0, on, by omega, rfl, hlen, Lib.hid (fun i hi => by rw [HO.out i hi]; simp), RS5, RW5, S5⟩
    case round =>
     clear RS5 RW5 S5 hlen HO
     obtain ⟨q, on', hq, rfl, hlen, HO, RS, RW, S⟩ := hrel
     by_cases hql : q < row.length
     ·have z2 : (q : Int) < (row.length : Int) := by omega
      obtain ⟨ua', uc', e0, hI⟩ := RW.out.now
      cases e0
      obtain ⟨b2, o2, rfl, y2⟩ := hI q hql
      obtain ⟨hx0, hx1⟩ := HRN.out (row.getD q 0) (by simp [List.getD, hql])
      obtain ⟨x, hx⟩ : ∃ x : Nat, row.getD q 0 = (x : Int) := ⟨(row.getD q 0).toNat, by omega⟩
      have hxn : x < n := by omega
      have HN : Hid (∀ i, i < n → ((on'.set x true).getD i false = true ↔ (∃ j, j < k ∧ CY (gr.getD j []) = true ∧ (i : Int) ∈ gr.getD j []) ∨ (i : Int) ∈ row.take (q + 1))) := Lib.hid (fun i hi => by
       rw [getD_set _ _ _ _ _ (by omega), take_succ_getD (d := 0) hql, hx, List.mem_append, List.mem_singleton]
       by_cases e : i = x
       ·rw [if_pos e]; subst e; simp
       ·rw [if_neg e, HO.out i hi]
        constructor
        ·rintro (h | h)
         ·exact .inl h
         ·exact .inr (.inl h)
        ·rintro (h | h | h)
         ·exact .inl h
         ·exact .inr h
         ·omega)
      rw [hx] at y2
      have xc := cell_of_block S.out.blk2 x _ (bools_get on' x (by omega))
      have xf := free_of_block S.out.blk2 x
      have SN := Lib.hid (S.out.set2 x (.bool true))
      rw [bools_set] at SN
      have KF : Hid (Frm (fun q => q = (w.heap.size + 1)) wr (wr.setCell ⟨w.heap.size + 1, x, none⟩ (.bool true))) := Lib.hid ((Frm.refl (fun q => q = (w.heap.size + 1)) wr).setCell (p := ⟨w.heap.size + 1, x, none⟩) (fun _ => rfl) (.bool true))
      have RSN := Lib.hid (RS.out.step (F' := fun q => q = (w.heap.size + 1)) KF.out (fun q hq => .inl hq))
      have RWN := Lib.hid (RW.out.step (F' := fun q => q = (w.heap.size + 1)) KF.out (fun q hq => .inl hq))
      clear HO hI hx0 hx1 hx S RS RW KF
      generalize on'.getD x false = bx at *
      go_wp2_with fail
      go_roundg (row.length - (q + 1))
      case measure => omega
      case rel => exact ⟨q + 1, _, by omega, by simp, by simpa using hlen, HN, RSN, RWN, SN⟩
     ·obtain rfl : q = row.length := by omega
      have z2 : ¬ (row.length : Int) < (row.length : Int) := by omega
      have HN : Hid (∀ i, i < n → (on'.getD i false = true ↔ ∃ j, j < k + 1 ∧ CY (gr.getD j []) = true ∧ (i : Int) ∈ gr.getD j [])) := Lib.hid (fun i hi => by
       rw [HKS.out i, HO.out i hi, List.take_length]
       constructor
       ·rintro (h | h)
        ·exact .inl h
        ·exact .inr ⟨HCC.out, h⟩
       ·rintro (h | ⟨-, h⟩)
        ·exact .inl h
        ·exact .inr h)
      clear HO RW
      go_wp2_with fail
      go_roundg (gr.length - (k + 1))
      case measure => omega
      case rel => exact ⟨k + 1, _, by omega, by simp, hlen, HN, RS, S⟩
  ·obtain rfl : k = gr.length := by omega
   have z1 : ¬ (gr.length : Int) < (gr.length : Int) := by omega
   have HSL : Hid (onK on n = spinL g n) := Lib.hid (onK_spin fun i hi => by
    rw [HO.out i hi, ← HSP.out i hi]
    constructor
    ·rintro ⟨j, hj, h1, h2⟩; exact ⟨gr.getD j [], by simp [List.getD, hj], h1, h2⟩
    ·rintro ⟨r, hr, h1, h2⟩
     obtain ⟨j, hj, e⟩ := List.getElem_of_mem hr
     have e2 : gr.getD j [] = r := by rw [List.getD_eq_getElem?_getD, List.getElem?_eq_getElem hj, e]; rfl
     exact ⟨j, hj, by rw [e2]; exact h1, by rw [e2]; exact h2⟩)
   have HLE : Hid (∀ k, (onK on k).length ≤ k) := Lib.hid (onK_len on)
   have HLN : Hid (on.length = n) := Lib.hid hlen
   clear HO RS hlen
   go_wp2_with fail
   go_loopg [8, 40] n (fun fu lv c wr => ∃ (k : Nat), k + fu = n ∧ c = .int .i64 k ∧ Hid (OwnI (w.heap.size + 2) wr lv (onK on k)) ∧ Hid (Bx2 w wr #[.slice ca n cc, .slice sa nS sc, .slice aa nA ac, .slice ta nT tc, vP, vA] 32 (bools on) 4))
   case atStart => exact ⟨0, by omega, rfl, Lib.hid (OwnI.nil _ _), S⟩
   case round =>
    clear S
    obtain ⟨q, hq, rfl, O, S⟩ := hrel
    by_cases hqn : q < n
    ·have z2 : (q : Int) < (n : Int) := by omega
     have xc := cell_of_block S.out.blk2 q _ (bools_get on q (by rw [HLN.out]; exact hqn))
     have hs := onK_succ on q
     have hle := HLE.out q
     cases hb : on.getD q false
     ·rw [hb] at xc
      rw [hb, if_neg (by simp)] at hs
      have E := Lib.hid hs
      clear hs hb
      go_wp2_with fail
      go_roundg (n - (q + 1))
      case measure => omega
      case rel => exact ⟨q + 1, by omega, by simp, Lib.hid (by rw [E.out]; exact O.out), S⟩
     ·rw [hb] at xc
      rw [hb, if_pos rfl] at hs
      have E := Lib.hid hs
      clear hs hb
      obtain ⟨la, lc, rfl⟩ := ownv O.out
      generalize onK on q = ok at *
      go_wp2_with (at_builtin; refine wpList_append_lies (wr.alloc (.cells #[.int .i64 (q : Nat)] 3)) rfl (.tmp 46) (.tmp 48) 22 rfl (w.heap.size + 2) 3 i0 (.int .i64 0) 1 8 Try.underlying22 hi0 hz0 hz1 hz2 rfl (by decide) (.slice la ok.length lc) ok.length (ok.map (Value.int .i64)) rfl (World.ownsRow.alloc O.out _) ⟨wr.heap.size, 0, none⟩ 1 1 [.int .i64 (q : Nat)] rfl rfl (World.news_of_block (heap_alloc_new _ _)) (by simp [Value.oneCell']) (by omega) (by unfold maxLen; omega) (by omega) (by have := S.out.size; simp only [alloc_size]; omega) (wr.heap.size + 1) (by simp) ?_; intro g7 cap7 w7 hown7 hgr7 hor7 hlt7; have S7 := Lib.hid ((S.out.more (balloc wr (.cells #[.int .i64 (q : Nat)] 3))).grown hgr7 (fun k e => (World.ownsRow.lt O.out k e).1)); have O7 : Hid (OwnI (w.heap.size + 2) w7 (.slice (some ⟨g7, 0, none⟩) (ok.length + 1) cap7) (onK on (q + 1))) := Lib.hid (by unfold OwnI; rw [E.out, List.length_append, List.map_append]; exact hown7); clear hown7 hgr7 hor7 hlt7)
      go_roundg (n - (q + 1))
      case measure => omega
      case rel => exact ⟨q + 1, by omega, by simp, O7, S7⟩
    ·obtain rfl : q = n := by omega
     have z2 : ¬ (q : Int) < (q : Int) := by omega
     go_wp2_with fail
     go_ret
     exact ⟨_, rfl, by rw [← HSL.out]; exact O.out.ints, S.out.below⟩
end Go.Proofs.Ytlhpjfnfemebdaa
