/-
  A map from ints to ints that the call has made: a plain function. Rows of rows of the call's own.
-/
import Derived.Test.YtnlaonppgebpoaaReach
import Derived.Maps.OwnSet
import Derived.Test.YtnlaonppgebpoaaGrp
namespace Go.Proofs.Ytnlaonppgebpoaa
open Go.RowKit Go.Maps

theorem law3 : Keyed Try.prog 3 := int_keyed Try.underlying3
theorem zero3 (w : World) : (zeroValue 3).run Try.prog w = .ok (.int .i64 0) w := by kernel_rfl
def litI (k : Int) : Lit := .int .i64 k
theorem litI_key (k : Int) : WideAt.IsKeyLit (litI k) := trivial
theorem litI_inj {k l : Int} (h : litI k = litI l) : k = l := by unfold litI at h; cases h; rfl
/-- block b is a map of at most n entries, sz in fact, that holds f -/
def MapI (w : World) (b n : Nat) (f : Int → Option Int) (sz : Nat) : Prop :=
  ∃ D : DataW Unit, w.ownsMap Try.prog 3 (plainElem Try.prog 3) b n D ∧ (∀ k, has D (litI k) = (f k).isSome) ∧ (∀ k, D.atKey (litI k) (.lit (.int .i64 0)) = .lit (.int .i64 ((f k).getD 0))) ∧ Maps.size D = sz
theorem MapI.made (w : World) : MapI (w.alloc (.map #[] 0)) w.heap.size 0 (fun _ => none) 0 :=
  ⟨.map [], World.ownsMap_made _ _ _ _, fun _ => rfl, fun _ => rfl, rfl⟩
section
variable {w w' : World} {b n sz : Nat} {f : Int → Option Int}
theorem MapI.kept (h : MapI w b n f sz) {row : Option Nat} (hg : w.grownBy w' row) (hne : some b ≠ row) : MapI w' b n f sz := by
  obtain ⟨D, h1, h2⟩ := h
  exact ⟨D, h1.kept hg hne, h2⟩
theorem MapI.heap (h : MapI w b n f sz) (he : w'.heap[b]? = w.heap[b]?) : MapI w' b n f sz := by
  obtain ⟨D, ⟨es, c, h0, h1⟩, h2⟩ := h
  exact ⟨D, ⟨es, c, by rw [he]; exact h0, h1⟩, h2⟩
theorem MapI.drew (h : MapI w b n f sz) : MapI w.drew b n f sz := h
theorem MapI.setCell (h : MapI w b n f sz) {a : Addr} (ha : b ≠ a.block) (u : Value) : MapI (w.setCell a u) b n f sz := by
  obtain ⟨D, h1, h2⟩ := h
  exact ⟨D, h1.setCell ha u, h2⟩
theorem MapI.lt (h : MapI w b n f sz) : b < w.heap.size := by obtain ⟨D, h1, -⟩ := h; exact h1.lt
theorem MapI.sizeLe (h : MapI w b n f sz) : sz ≤ n := by
  obtain ⟨D, h1, -, -, rfl⟩ := h
  exact h1.size_le
theorem keyI {k : Int} (hw : (Lit.int .i64 k).wf = true) : keyOf Try.prog 3 (.int .i64 k) = some (litI k) := keyOf_int_mk Try.underlying3 hw
/-- what is read -/
theorem MapI.look (h : MapI w b n f sz) {k : Int} (hw : (Lit.int .i64 k).wf = true) : (Instr.lookup 84 (.map (some b)) (.int .i64 k) false).run Try.prog w = .ok (.int .i64 ((f k).getD 0)) w := by
  obtain ⟨D, h1, -, h3, -⟩ := h
  obtain ⟨c, hr, hat, -⟩ := h1.lookup_int law3 Try.underlying84 Try.underlying3 (zero3 w) (keyI hw)
  rw [h3 k] at hat
  simp only [DataW.lit.injEq, Lit.int.injEq, true_and] at hat
  rw [hr, hat]
variable {ops : Array Oper} {rest : List Oper} {o : Oper} {a : Act} {Q : Exit → Act → World → Prop}
theorem wp_look_ok (h : MapI w b n f sz) (hg : o.guard = none) {m x : Operand} (hop : o.op = Op.lookup 84 m x true) (hm : a.eval m = .map (some b)) {k : Int} (hx : a.eval x = .int .i64 k) (hw : (Lit.int .i64 k).wf = true)
    (hK : wpList Try.prog ops Q rest (a.put o.dst (.tuple #[.int .i64 ((f k).getD 0), .bool (f k).isSome])) w) : wpList Try.prog ops Q (o :: rest) a w := by
  obtain ⟨D, h1, h2, h3, -⟩ := h
  refine wpList_lookup_own_ok_int w hg m x 84 hop 3 3 .i64 law3 Try.underlying84 Try.underlying3 (zero3 w) b n D hm h1 _ (litI k) hx (keyI hw) fun c hat hwc => ?_
  rw [h3 k] at hat
  simp only [DataW.lit.injEq, Lit.int.injEq, true_and] at hat
  rw [h2 k, ← hat]
  exact hK
theorem wp_look (h : MapI w b n f sz) (hg : o.guard = none) {m x : Operand} (hop : o.op = Op.lookup 84 m x false) (hm : a.eval m = .map (some b)) {k : Int} (hx : a.eval x = .int .i64 k) (hw : (Lit.int .i64 k).wf = true)
    (hK : wpList Try.prog ops Q rest (a.put o.dst (.int .i64 ((f k).getD 0))) w) : wpList Try.prog ops Q (o :: rest) a w := by
  obtain ⟨D, h1, -, h3, -⟩ := h
  refine wpList_lookup_own_int w hg m x 84 hop 3 3 .i64 law3 Try.underlying84 Try.underlying3 (zero3 w) b n D hm h1 _ (litI k) hx (keyI hw) fun c hat hwc => ?_
  rw [h3 k] at hat
  simp only [DataW.lit.injEq, Lit.int.injEq, true_and] at hat
  rw [← hat]
  exact hK
theorem wp_mlen (h : MapI w b n f sz) (hg : o.guard = none) {m : Operand} (hop : o.op = Op.call { callee := Callee.builtin Builtin.len, args := #[m], argTypes := #[84] }) (hm : a.eval m = .map (some b))
    (hK : wpList Try.prog ops Q rest (a.put o.dst (.int .i64 (sz : Nat))) w) : wpList Try.prog ops Q (o :: rest) a w := by
  obtain ⟨D, h1, -, -, rfl⟩ := h
  exact wpList_len_own w hg m 84 hop 3 3 Try.underlying84 _ b n D hm h1 hK
/-- what is stored -/
theorem MapI.put (h : MapI w b n f sz) (hn : n < maxLen) {k v : Int} (hk : (Lit.int .i64 k).wf = true) (hv : (Lit.int .i64 v).wf = true) :
    ∃ w', (Instr.mapUpdate 84 (.map (some b)) (.int .i64 k) (.int .i64 v)).run Try.prog w = .ok () w' ∧ MapI w' b (n + 1) (fun x => if x = k then some v else f x) (if (f k).isSome then sz else sz + 1) ∧ w.grownBy w' (some b) := by
  obtain ⟨D, h1, h2, h3, h4⟩ := h
  obtain ⟨w', hr, ho, hg⟩ := h1.update law3 Try.underlying84 hn (keyI hk) (plainElem_int Try.underlying3 hv)
  have ht := h1.tidy law3
  have him := h1.isMap
  refine ⟨w', hr, ⟨_, ho, fun x => ?_, fun x => ?_, ?_⟩, hg⟩
  · show _ = (if x = k then some v else f x).isSome
    by_cases e : x = k
    · rw [if_pos e, e, has_put_same him (litI_key k)]; rfl
    · rw [if_neg e, has_put_other (fun q => e (litI_inj q)), h2]
  · show _ = DataW.lit (Lit.int IntKind.i64 ((if x = k then some v else f x).getD 0))
    by_cases e : x = k
    · rw [if_pos e, e, atKey_put_same him (litI_key k)]; rfl
    · rw [if_neg e, atKey_put_other (fun q => e (litI_inj q)), h3]
  · rw [size_put ht, h2, h4]
theorem wp_mput (h : MapI w b n f sz) (hn : n < maxLen) (hg : o.guard = none) {m x y : Operand} (hop : o.op = Op.mapUpdate 84 m x y) (hm : a.eval m = .map (some b)) {k v : Int} (hx : a.eval x = .int .i64 k) (hy : a.eval y = .int .i64 v)
    (hk : (Lit.int .i64 k).wf = true) (hv : (Lit.int .i64 v).wf = true)
    (hK : ∀ w', MapI w' b (n + 1) (fun x => if x = k then some v else f x) (if (f k).isSome then sz else sz + 1) → w.grownBy w' (some b) → wpList Try.prog ops Q rest (a.put o.dst undef) w') : wpList Try.prog ops Q (o :: rest) a w := by
  obtain ⟨w', hr, ho, hgr⟩ := h.put hn hk hv
  refine wpList_plain hg fun K' hK' => ?_
  unfold Oper.wp
  simp [execOp, hop, hm, hx, hy, hr, Result.andThen]
  exact hK' _ _ (hK w' ho hgr)
end
end Go.Proofs.Ytnlaonppgebpoaa

namespace Go.Proofs.Ytnlaonppgebpoaa
open Go.RowKit

theorem IntsAt.frm {w w' : World} {v : Value} {l : List Int} {F : Nat → Prop} (h : IntsAt w v l) (hf : Frm F w w') (hno : ∀ k, v.ownBlock = some k → ¬ F k) : IntsAt w' v l := by
  obtain ⟨a, cap, rfl, hc⟩ := h
  refine ⟨a, cap, rfl, fun j hj => ?_⟩
  obtain ⟨b, off, rfl, h⟩ := hc j hj
  exact ⟨b, off, rfl, hf.cell h (hno b rfl)⟩
theorem BoolsAt.frm {w w' : World} {v : Value} {l : List Bool} {F : Nat → Prop} (h : BoolsAt w v l) (hf : Frm F w w') (hno : ∀ k, v.ownBlock = some k → ¬ F k) : BoolsAt w' v l := by
  obtain ⟨a, cap, rfl, hc⟩ := h
  refine ⟨a, cap, rfl, fun j hj => ?_⟩
  obtain ⟨b, off, rfl, h⟩ := hc j hj
  exact ⟨b, off, rfl, hf.cell h (hno b rfl)⟩
/-- rows of ints -/
def RowsAt (w : World) (v : Value) (rows : List (List Int)) : Prop :=
  ∃ a cap, v = .slice a rows.length cap ∧ ∀ j, j < rows.length → ∃ b off u, a = some ⟨b, off, none⟩ ∧ w.cell? ⟨b, off + j, none⟩ = some u ∧ IntsAt w u (rows.getD j [])
theorem RowsAt.below {w w' : World} {v : Value} {rows : List (List Int)} (h : RowsAt w v rows) (hb : Below w.heap.size w w') : RowsAt w' v rows := by
  obtain ⟨a, cap, e, h⟩ := h
  refine ⟨a, cap, e, fun j hj => ?_⟩
  obtain ⟨b, off, u, e, h1, h2⟩ := h j hj
  exact ⟨b, off, u, e, bkeep hb h1, h2.below hb⟩
theorem rowsAt_nil (w : World) : RowsAt w (.slice none 0 0) [] := ⟨none, 0, rfl, fun j hj => by simp at hj⟩
theorem ownsRow_cell {w : World} {base : Nat} {e : TypeId} {v : Value} {n : Nat} {xs : List Value} (h : w.ownsRow base e 1 v n xs) {j : Nat} (hj : j < n) : ∃ b, v.ownBlock = some b ∧ (∃ cap, v = .slice (some ⟨b, 0, none⟩) n cap) ∧ w.cell? ⟨b, j, none⟩ = some (xs.getD j undef) := by
  obtain ⟨hl, h⟩ := h
  rcases h with ⟨rfl, rfl⟩ | ⟨g, cap, cur, rfl, hb, hg, hn, hc, hs, ht⟩
  · omega
  · refine ⟨g, rfl, ⟨cap, rfl⟩, cell_of_block hg j _ ?_⟩
    have hjx : j < xs.length := by omega
    rw [List.getD_eq_getElem?_getD, List.getElem?_eq_getElem hjx, Option.getD_some, ← List.getElem?_eq_getElem hjx, ← ht, List.getElem?_take, if_pos (by omega)]
    simp
/-- an own row of ints is ints -/
theorem own_ints {w : World} {base : Nat} {v : Value} {l : List Int} (h : w.ownsRow base 3 1 v l.length (l.map (Value.int .i64))) : IntsAt w v l := by
  obtain ⟨hl, h'⟩ := h
  rcases h' with ⟨rfl, e⟩ | ⟨g, cap, cur, rfl, hb, hg, hn, hc, hs, ht⟩
  · obtain rfl : l = [] := List.eq_nil_of_length_eq_zero e
    exact intsAt_nil w
  · refine ⟨some ⟨g, 0, none⟩, cap, rfl, fun j hj => ⟨g, 0, rfl, ?_⟩⟩
    obtain ⟨b, e1, -, e2⟩ := ownsRow_cell (w := w) (base := base) (e := 3) (v := .slice (some ⟨g, 0, none⟩) l.length cap) (n := l.length) (xs := l.map (Value.int .i64)) ⟨hl, .inr ⟨g, cap, cur, rfl, hb, hg, hn, hc, hs, ht⟩⟩ hj
    obtain rfl : g = b := by simpa [Value.ownBlock] using e1
    rw [Nat.zero_add, e2]
    simp [hj]
/-- the outer row, the rows' values; all of the call's own, apart -/
structure RowsM (w : World) (base : Nat) (ov : Value) (rows : List (List Int)) (vals : List Value) : Prop where
  len : vals.length = rows.length
  out : w.ownsRow base 24 1 ov rows.length vals
  inn : ∀ j, j < rows.length → w.ownsRow base 3 1 (vals.getD j undef) (rows.getD j []).length ((rows.getD j []).map (Value.int .i64))
  apart : ∀ j k, j ≠ k → j < rows.length → k < rows.length → ∀ q, (vals.getD j undef).ownBlock = some q → (vals.getD k undef).ownBlock ≠ some q
  offO : ∀ j, j < rows.length → ∀ q, ov.ownBlock = some q → (vals.getD j undef).ownBlock ≠ some q
theorem rowsM_nil (w : World) (base : Nat) : RowsM w base (.slice none 0 0) [] [] :=
  ⟨rfl, World.ownsRow_nil _ _ _ _, fun j hj => by simp at hj, fun j k _ hj => by simp at hj, fun j hj => by simp at hj⟩
section
variable {w w' : World} {base : Nat} {ov : Value} {rows : List (List Int)} {vals : List Value}
theorem RowsM.frm (h : RowsM w base ov rows vals) {F : Nat → Prop} (hf : Frm F w w') (h1 : ∀ q, ov.ownBlock = some q → ¬ F q) (h2 : ∀ j, j < rows.length → ∀ q, (vals.getD j undef).ownBlock = some q → ¬ F q) : RowsM w' base ov rows vals :=
  ⟨h.len, ownsRow_frm h.out hf h1, fun j hj => ownsRow_frm (h.inn j hj) hf (h2 j hj), h.apart, h.offO⟩
theorem RowsM.more (h : RowsM w base ov rows vals) (hb : Below w.heap.size w w') : RowsM w' base ov rows vals :=
  h.frm (F := fun _ => False) (bfrm hb _) (fun _ _ => id) (fun _ _ _ _ => id)
theorem RowsM.drew (h : RowsM w base ov rows vals) : RowsM w.drew base ov rows vals := ⟨h.len, h.out, h.inn, h.apart, h.offO⟩
theorem RowsM.at (h : RowsM w base ov rows vals) : RowsAt w ov rows := by
  have hout := h.out
  obtain ⟨hl, h'⟩ := hout
  rcases h' with ⟨rfl, e⟩ | ⟨g, cap, cur, rfl, hb, hg, hn, hc, hs, ht⟩
  · obtain rfl : rows = [] := List.eq_nil_of_length_eq_zero e
    exact rowsAt_nil w
  · refine ⟨some ⟨g, 0, none⟩, cap, rfl, fun j hj => ⟨g, 0, vals.getD j undef, rfl, ?_, own_ints (h.inn j hj)⟩⟩
    obtain ⟨b, e1, -, e2⟩ := ownsRow_cell h.out hj
    obtain rfl : g = b := by simpa [Value.ownBlock] using e1
    rw [Nat.zero_add, e2]
theorem getD_snoc {α : Type} (l : List α) (x z : α) (j : Nat) (h : j ≤ l.length) : (l ++ [x]).getD j z = if j < l.length then l.getD j z else x := by
  simp only [List.getD_eq_getElem?_getD]
  by_cases hj : j < l.length
  · rw [if_pos hj, List.getElem?_append_left hj]
  · obtain rfl : j = l.length := by omega
    rw [if_neg hj]; simp
/-- a new row behind the others: behind the append -/
theorem RowsM.push (h : RowsM w base ov rows vals) {nv : Value} {row : List Int} {g cap : Nat} (hg : w.grownBy w' ov.ownBlock) (hor : ov.ownBlock = some g ∨ g = w.heap.size)
    (hown : w'.ownsRow base 24 1 (.slice (some ⟨g, 0, none⟩) (rows.length + 1) cap) (rows.length + 1) (vals ++ [nv]))
    (hn : w.ownsRow base 3 1 nv row.length (row.map (Value.int .i64))) (hn1 : ∀ q, nv.ownBlock = some q → ov.ownBlock ≠ some q) (hn2 : ∀ j, j < rows.length → ∀ q, nv.ownBlock = some q → (vals.getD j undef).ownBlock ≠ some q) :
    RowsM w' base (.slice (some ⟨g, 0, none⟩) (rows.length + 1) cap) (rows ++ [row]) (vals ++ [nv]) := by
  have hlen := h.len
  have hv : ∀ j, j ≤ rows.length → (vals ++ [nv]).getD j undef = if j < rows.length then vals.getD j undef else nv := fun j hj => by rw [getD_snoc _ _ _ _ (by omega), hlen]
  have hr : ∀ j, j ≤ rows.length → (rows ++ [row]).getD j [] = if j < rows.length then rows.getD j [] else row := fun j hj => getD_snoc _ _ _ _ hj
  have hol : ∀ j, j < rows.length → ∀ q, (vals.getD j undef).ownBlock = some q → q < w.heap.size := fun j hj q hq => ((h.inn j hj).lt q hq).2
  have key : ∀ (x : Value) (l : List Int), w.ownsRow base 3 1 x l.length (l.map (Value.int .i64)) → (∀ q, x.ownBlock = some q → ov.ownBlock ≠ some q) → w'.ownsRow base 3 1 x l.length (l.map (Value.int .i64)) := fun x l hx hno => by
    refine hx.kept hg ?_
    rcases e : x.ownBlock with _ | q
    · exact .inl rfl
    · exact .inr (fun e2 => hno q e e2.symm)
  have hofg : ∀ q x, Value.ownBlock x = some q → (∀ q, x.ownBlock = some q → ov.ownBlock ≠ some q) → q < w.heap.size → q ≠ g := fun q x hq hno hlt e => by
    subst e
    rcases hor with e2 | e2
    · exact hno _ hq e2
    · omega
  refine ⟨by simp [hlen], by simpa using hown, fun j hj => ?_, fun j k hjk hj hk q hq => ?_, fun j hj q hq => ?_⟩
  · simp at hj
    rw [hv j (by omega), hr j (by omega)]
    by_cases e : j < rows.length
    · rw [if_pos e, if_pos e]
      exact key _ _ (h.inn j e) (fun q hq e2 => h.offO j e q e2 hq)
    · rw [if_neg e, if_neg e]
      exact key _ _ hn hn1
  · simp at hj hk
    rw [hv j (by omega)] at hq
    rw [hv k (by omega)]
    by_cases e1 : j < rows.length
    · rw [if_pos e1] at hq
      by_cases e2 : k < rows.length
      · rw [if_pos e2]; exact h.apart j k hjk e1 e2 q hq
      · rw [if_neg e2]; exact fun e3 => hn2 j e1 q e3 hq
    · rw [if_neg e1] at hq
      rw [if_pos (by omega)]
      exact hn2 k (by omega) q hq
  · simp at hj
    have hq' : g = q := by simpa [Value.ownBlock] using hq
    subst hq'
    rw [hv j (by omega)]
    by_cases e1 : j < rows.length
    · rw [if_pos e1]
      exact fun e2 => hofg _ _ e2 (fun q hq e3 => h.offO j e1 q e3 hq) (hol j e1 _ e2) rfl
    · rw [if_neg e1]
      exact fun e2 => hofg _ _ e2 hn1 (hn.lt _ e2).2 rfl
/-- a row grown by one: behind the append and the store -/
theorem RowsM.grow (h : RowsM w base ov rows vals) {k : Nat} (hk : k < rows.length) {x : Int} {m g cap : Nat} (hm : (rows.getD k []).length = m) (hg : w.grownBy w' (vals.getD k undef).ownBlock) (hor : (vals.getD k undef).ownBlock = some g ∨ g = w.heap.size)
    (hown : w'.ownsRow base 3 1 (.slice (some ⟨g, 0, none⟩) (m + 1) cap) (m + 1) ((rows.getD k []).map (Value.int .i64) ++ [.int .i64 x])) :
    ∃ ob oc, ov = .slice (some ⟨ob, 0, none⟩) rows.length oc ∧ (∃ u, w'.cell? ⟨ob, k, none⟩ = some u) ∧ w'.frozen? ⟨ob, k, none⟩ = false ∧ base ≤ ob ∧
      RowsM (w'.setCell ⟨ob, k, none⟩ (.slice (some ⟨g, 0, none⟩) (m + 1) cap)) base ov (rows.modify k (· ++ [x])) (vals.set k (.slice (some ⟨g, 0, none⟩) (m + 1) cap)) := by
  subst hm
  have hlen := h.len
  have hout : w'.ownsRow base 24 1 ov rows.length vals := by
    refine h.out.kept hg ?_
    rcases e : ov.ownBlock with _ | q
    · exact .inl rfl
    · exact .inr (fun e2 => h.offO k hk q e e2.symm)
  have holt : ∀ q, ov.ownBlock = some q → q < w.heap.size := fun q hq => (h.out.lt q hq).2
  have hkeep : ∀ j, j < rows.length → j ≠ k → w'.ownsRow base 3 1 (vals.getD j undef) (rows.getD j []).length ((rows.getD j []).map (Value.int .i64)) := fun j hj hjk => by
    refine (h.inn j hj).kept hg ?_
    rcases e : (vals.getD j undef).ownBlock with _ | q
    · exact .inl rfl
    · exact .inr (fun e2 => h.apart j k hjk hj hk q e e2.symm)
  obtain ⟨hxl, h'⟩ := hout
  rcases h' with ⟨-, e⟩ | ⟨ob, oc, cur, rfl, hob, hgb, hn, hc, hs, ht⟩
  · omega
  have hobg : ob ≠ g := fun e => by
    subst e
    rcases hor with e2 | e2
    · exact h.offO k hk ob rfl e2
    · have := holt ob rfl; omega
  have hvs : ∀ j, (vals.set k (.slice (some ⟨g, 0, none⟩) ((rows.getD k []).length + 1) cap)).getD j undef = if j = k then .slice (some ⟨g, 0, none⟩) ((rows.getD k []).length + 1) cap else vals.getD j undef := fun j => getD_set _ _ _ _ _ (by omega)
  have hrs : ∀ j, j < rows.length → (rows.modify k (· ++ [x])).getD j [] = if j = k then rows.getD k [] ++ [x] else rows.getD j [] := fun j hj => by
    simp only [List.getD_eq_getElem?_getD, List.getElem?_modify]
    by_cases e : j = k
    · subst e; simp [List.getElem?_eq_getElem hj]
    · have e' : ¬ k = j := fun e2 => e e2.symm
      simp [e, e']
  have hf : Frm (fun q => q = ob) w' (w'.setCell ⟨ob, k, none⟩ (.slice (some ⟨g, 0, none⟩) ((rows.getD k []).length + 1) cap)) := (Frm.refl (fun q => q = ob) w').setCell (p := ⟨ob, k, none⟩) (fun _ => rfl) _
  have hgk : k < cur.size := by omega
  refine ⟨ob, oc, rfl, ⟨_, cell_of_block hgb k cur[k] (Array.getElem?_eq_getElem hgk)⟩, free_of_block hgb k, hob, ⟨by simp [hlen], ?_, fun j hj => ?_, fun j l hjl hj hl q hq => ?_, fun j hj q hq => ?_⟩⟩
  · refine ⟨by simpa using hxl, .inr ⟨ob, oc, cur.setIfInBounds k (.slice (some ⟨g, 0, none⟩) ((rows.getD k []).length + 1) cap), by simp, hob, ?_, by simpa using hn, hc, by simpa using hs, ?_⟩⟩
    · rw [heap_setCell_block hgb]
    · rw [← ht, Array.toList_setIfInBounds, List.length_modify, ← List.take_set]
  · simp at hj
    rw [hvs j, hrs j hj]
    by_cases e : j = k
    · rw [if_pos e, if_pos e]
      have := ownsRow_frm hown hf (fun q hq e2 => hobg (by simp [Value.ownBlock] at hq; omega))
      simpa using this
    · rw [if_neg e, if_neg e]
      exact ownsRow_frm (hkeep j hj e) hf (fun q hq e2 => h.offO j hj ob rfl (by rw [hq, e2]))
  · simp at hj hl
    have hng : ∀ i, i < rows.length → i ≠ k → (vals.getD i undef).ownBlock ≠ some g := fun i hi hik e2 => by
      rcases hor with e3 | e3
      · exact h.apart i k hik hi hk g e2 e3
      · have := ((h.inn i hi).lt g e2).2; omega
    rw [hvs j] at hq
    rw [hvs l]
    by_cases e1 : j = k
    · rw [if_pos e1] at hq
      have hq' : g = q := by simpa [Value.ownBlock] using hq
      subst hq'
      rw [if_neg (by omega)]
      exact hng l hl (by omega)
    · rw [if_neg e1] at hq
      by_cases e2 : l = k
      · rw [if_pos e2]
        intro e3
        have hq' : g = q := by simpa [Value.ownBlock] using e3
        subst hq'
        exact hng j hj e1 hq
      · rw [if_neg e2]; exact h.apart j l hjl hj hl q hq
  · simp at hj
    have hq' : ob = q := by simpa [Value.ownBlock] using hq
    subst hq'
    rw [hvs j]
    by_cases e1 : j = k
    · rw [if_pos e1]
      intro e3
      exact hobg (by simp [Value.ownBlock] at e3; omega)
    · rw [if_neg e1]; exact h.offO j hj ob rfl
end
end Go.Proofs.Ytnlaonppgebpoaa
