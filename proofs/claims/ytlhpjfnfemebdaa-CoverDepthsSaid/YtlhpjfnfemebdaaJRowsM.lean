/-
  Which nodes can be reached: no program in sight. Visiting: the plain law of a search with a stack: no program in sight. edges.Reach: its own memory; the closure that visits. edges.Reach: the walk. A map from ints to ints that the call has made: a plain function. Rows of rows of the call's own. Rows of the call's own: small laws. A copy of a row, of whatever elements: append to nothing. The value of postfix code.
-/
import Derived.Deep.AppendLies
import Derived.Deep.OwnRows
import Derived.Deep.RegionLaw
import Derived.Deep.RegionWith
import Derived.Laws.CopyOwn
import Derived.Shelf.Abstract
import Derived.Test.YtlhpjfnfemebdaaRight
import Derived.Maps.OwnSet
import Derived.Test.YtlhpjfnfemebdaaEach
import Derived.Deep.AppendSrc
import Derived.Test.YtlhpjfnfemebdaaJMachS
import Derived.Test.YtlhpjfnfemebdaaMachC
namespace Go.Proofs.Ytlhpjfnfemebdaa
inductive Rch (E : List Ed) (s : Int → Prop) : Int → Prop
 | base {i : Int} : s i → Rch E s i
 | step {e : Ed} : Rch E s e.1 → e ∈ E → Rch E s e.2.2
theorem Rch.mono {E E' : List Ed} {s s' : Int → Prop} (hE : ∀ e ∈ E, e ∈ E') (hs : ∀ i, s i → s' i) {i : Int} (h : Rch E s i) : Rch E' s' i := by
 induction h with
 | base h => exact .base (hs _ h)
 | step _ h ih => exact .step ih (hE _ h)
theorem Rch.trans {E : List Ed} {s t : Int → Prop} (h : ∀ i, s i → Rch E t i) {i : Int} (hi : Rch E s i) : Rch E t i := by
 induction hi with
 | base h' => exact h _ h'
 | step _ h' ih => exact .step ih h'
def Src (n : Nat) (fr : List Int) (i : Int) : Prop := i ∈ fr ∧ 0 ≤ i ∧ i < (n : Int)
open Classical in
noncomputable def reachL (g : Gr) (fr : List Int) : List Bool := if rightB g = true then tab (nodesN g) (fun i => decide (Rch (allL g) (Src (nodesN g) fr) (i : Int))) else []
theorem reachL_not {g : Gr} (h : rightB g = false) (fr : List Int) : reachL g fr = [] := by unfold reachL; rw [h]; rfl
theorem reachL_len {g : Gr} (h : Rt g) (fr : List Int) : (reachL g fr).length = nodesN g := by unfold reachL; rw [if_pos ((rightB_iff g).2 h), tab_len]
open Classical in
theorem reachL_get {g : Gr} (h : Rt g) (fr : List Int) {i : Nat} (hi : i < nodesN g) : (reachL g fr).getD i false = true ↔ Rch (allL g) (Src (nodesN g) fr) (i : Int) := by
 unfold reachL
 rw [if_pos ((rightB_iff g).2 h), tab_get _ _ _ _ hi, decide_eq_true_eq]
theorem Rch.range {g : Gr} (h : Rt g) {s : Int → Prop} (hs : ∀ i, s i → 0 ≤ i ∧ i < (nodesN g : Int)) {i : Int} (hr : Rch (allL g) s i) : 0 ≤ i ∧ i < (nodesN g : Int) := by
 cases hr with
 | base h' => exact hs _ h'
 | step _ h' =>
  have := allL_mem h h'
  rw [nodesN_right h]; omega
theorem reachL_eq {g : Gr} (h : Rt g) (fr : List Int) (out : List Bool) (hl : out.length = nodesN g)
  (hs : ∀ i, i < nodesN g → out.getD i false = true → Rch (allL g) (Src (nodesN g) fr) (i : Int))
  (hb : ∀ i : Nat, i < nodesN g → (i : Int) ∈ fr → out.getD i false = true)
  (hc : ∀ e ∈ allL g, out.getD e.1.toNat false = true → out.getD e.2.2.toNat false = true) : out = reachL g fr := by
 have key : ∀ i : Int, Rch (allL g) (Src (nodesN g) fr) i → out.getD i.toNat false = true := by
  intro i hi
  induction hi with
  | base h' =>
   obtain ⟨h1, h2, h3⟩ := h'
   rename_i i
   obtain ⟨k, rfl⟩ : ∃ k : Nat, i = (k : Int) := ⟨i.toNat, by omega⟩
   exact hb k (by omega) h1
  | step _ h' ih => exact hc _ h' ih
 apply List.ext_getElem?
 intro i
 by_cases hi : i < nodesN g
 ·have h1 : i < out.length := by omega
  have h2 : i < (reachL g fr).length := by rw [reachL_len h]; exact hi
  rw [List.getElem?_eq_getElem h1, List.getElem?_eq_getElem h2]
  have e1 : out.getD i false = out[i] := by simp [List.getD, h1]
  have e2 : (reachL g fr).getD i false = (reachL g fr)[i] := by simp [List.getD, h2]
  congr 1
  rw [Bool.eq_iff_iff, ← e1, ← e2, reachL_get h fr hi]
  exact ⟨hs i hi, fun hr => key _ hr⟩
 ·rw [List.getElem?_eq_none (by omega), List.getElem?_eq_none (by rw [reachL_len h]; omega)]
def bools (xs : List Bool) : Array Value := (xs.map (fun x : Bool => Value.bool x)).toArray
theorem bools_get (xs : List Bool) (p : Nat) (hp : p < xs.length) : (bools xs)[p]? = some (.bool (xs.getD p false)) := by
 simp [bools, List.getD, hp]
theorem bools_set (xs : List Bool) (p : Nat) (v : Bool) : (bools xs).setIfInBounds p (.bool v) = bools (xs.set p v) := by
 unfold bools; simp [List.map_set]
theorem bools_replicate (n : Nat) : bools (List.replicate n false) = (List.replicate n (Value.bool false)).toArray := by
 unfold bools; rw [List.map_replicate]
theorem boolsAt_block {w : World} {b n : Nat} {xs : List Bool} (h : w.heap[b]? = some (.cells (bools xs) 4 (0, 0))) (hn : n = xs.length) (cap : Nat) : BoolsAt w (.slice (some ⟨b, 0, none⟩) n cap) xs := by
 subst hn
 exact ⟨_, cap, rfl, fun j hj => ⟨b, 0, rfl, cell_of_block h _ _ (by rw [Nat.zero_add]; exact bools_get xs j hj)⟩⟩
theorem getD_set {α : Type} (l : List α) (p q : Nat) (v z : α) (hp : p < l.length) : (l.set p v).getD q z = if q = p then v else l.getD q z := by
 by_cases h : q = p
 ·subst h; rw [if_pos rfl, getD_set_same _ _ _ _ hp]
 ·rw [if_neg h, getD_set_other _ _ _ _ _ (fun e => h e.symm)]
def falses (out : List Bool) : Nat := out.countP (fun b => !b)
theorem falses_set : ∀ (out : List Bool) (p : Nat), p < out.length → out.getD p false = false → falses (out.set p true) + 1 = falses out
 | [], p, hp, _ => by simp at hp
 | b :: out, 0, _, h => by
  have : b = false := by simpa using h
  subst this
  simp [falses]
 | b :: out, p + 1, hp, h => by
  have := falses_set out p (by simpa using hp) (by simpa using h)
  simp only [falses, List.set_cons_succ, List.countP_cons] at this ⊢
  omega
end Go.Proofs.Ytlhpjfnfemebdaa
namespace Go.Proofs.Ytlhpjfnfemebdaa
end Go.Proofs.Ytlhpjfnfemebdaa
namespace Go.Proofs.Ytlhpjfnfemebdaa
open Go.RowKit
end Go.Proofs.Ytlhpjfnfemebdaa
namespace Go.Proofs.Ytlhpjfnfemebdaa
open Go.RowKit
theorem Try.info4 : (Try.prog.info? 4).map (fun i => (i.zero, i.size, i.bytes)) = some (some (.bool false), 1, 1) := by kernel_rfl
def BoolsBack (w : World) (l : List Bool) (e : Ending) (w' : World) : Prop := ∃ v, e = .returned v ∧ BoolsAt w' v l ∧ Below w.heap.size w w'
end Go.Proofs.Ytlhpjfnfemebdaa
namespace Go.Proofs.Ytlhpjfnfemebdaa
open Go.RowKit Go.Maps
theorem law3 : Keyed Try.prog 3 := int_keyed Try.underlying3
theorem zero3 (w : World) : (zeroValue 3).run Try.prog w = .ok (.int .i64 0) w := by kernel_rfl
def litI (k : Int) : Lit := .int .i64 k
theorem litI_key (k : Int) : WideAt.IsKeyLit (litI k) := trivial
theorem litI_inj {k l : Int} (h : litI k = litI l) : k = l := by unfold litI at h; cases h; rfl
def MapI (w : World) (b n : Nat) (f : Int → Option Int) (sz : Nat) : Prop :=
 ∃ D : DataW Unit, w.ownsMap Try.prog 3 (plainElem Try.prog 3) b n D ∧ (∀ k, has D (litI k) = (f k).isSome) ∧ (∀ k, D.atKey (litI k) (.lit (.int .i64 0)) = .lit (.int .i64 ((f k).getD 0))) ∧ Maps.size D = sz
theorem MapI.made (w : World) : MapI (w.alloc (.map #[] 0)) w.heap.size 0 (fun _ => none) 0 :=
 ⟨.map [], World.ownsMap_made _ _ _ _, fun _ => rfl, fun _ => rfl, rfl⟩
section
variable {w w' : World} {b n sz : Nat} {f : Int → Option Int}
theorem MapI.kept (h : MapI w b n f sz) {row : Option Nat} (hg : w.grownBy w' row) (hne : some b ≠ row) : MapI w' b n f sz := by
 obtain ⟨D, h1, h2⟩ := h
 exact ⟨D, h1.kept hg hne, h2⟩
theorem MapI.heap (h : MapI w b n f sz) (he : w'.heap[b]? = w.heap[b]?) : MapI w' b n f sz := by
 obtain ⟨D, ⟨es, c, h0, h1⟩, h2⟩ := h
 exact ⟨D, ⟨es, c, by rw [he]; exact h0, h1⟩, h2⟩
theorem MapI.drew (h : MapI w b n f sz) : MapI w.drew b n f sz := h
theorem MapI.setCell (h : MapI w b n f sz) {a : Addr} (ha : b ≠ a.block) (u : Value) : MapI (w.setCell a u) b n f sz := by
 obtain ⟨D, h1, h2⟩ := h
 exact ⟨D, h1.setCell ha u, h2⟩
theorem MapI.lt (h : MapI w b n f sz) : b < w.heap.size := by obtain ⟨D, h1, -⟩ := h; exact h1.lt
theorem keyI {k : Int} (hw : (Lit.int .i64 k).wf = true) : keyOf Try.prog 3 (.int .i64 k) = some (litI k) := keyOf_int_mk Try.underlying3 hw
theorem MapI.look (h : MapI w b n f sz) {k : Int} (hw : (Lit.int .i64 k).wf = true) : (Instr.lookup 91 (.map (some b)) (.int .i64 k) false).run Try.prog w = .ok (.int .i64 ((f k).getD 0)) w := by
 obtain ⟨D, h1, -, h3, -⟩ := h
 obtain ⟨c, hr, hat, -⟩ := h1.lookup_int law3 Try.underlying91 Try.underlying3 (zero3 w) (keyI hw)
 rw [h3 k] at hat
 simp only [DataW.lit.injEq, Lit.int.injEq, true_and] at hat
 rw [hr, hat]
variable {ops : Array Oper} {rest : List Oper} {o : Oper} {a : Act} {Q : Exit → Act → World → Prop}
theorem wp_look_ok (h : MapI w b n f sz) (hg : o.guard = none) {m x : Operand} (hop : o.op = Op.lookup 91 m x true) (hm : a.eval m = .map (some b)) {k : Int} (hx : a.eval x = .int .i64 k) (hw : (Lit.int .i64 k).wf = true)
  (hK : wpList Try.prog ops Q rest (a.put o.dst (.tuple #[.int .i64 ((f k).getD 0), .bool (f k).isSome])) w) : wpList Try.prog ops Q (o :: rest) a w := by
 obtain ⟨D, h1, h2, h3, -⟩ := h
 refine wpList_lookup_own_ok_int w hg m x 91 hop 3 3 .i64 law3 Try.underlying91 Try.underlying3 (zero3 w) b n D hm h1 _ (litI k) hx (keyI hw) fun c hat hwc => ?_
 rw [h3 k] at hat
 simp only [DataW.lit.injEq, Lit.int.injEq, true_and] at hat
 rw [h2 k, ← hat]
 exact hK
theorem wp_look (h : MapI w b n f sz) (hg : o.guard = none) {m x : Operand} (hop : o.op = Op.lookup 91 m x false) (hm : a.eval m = .map (some b)) {k : Int} (hx : a.eval x = .int .i64 k) (hw : (Lit.int .i64 k).wf = true)
  (hK : wpList Try.prog ops Q rest (a.put o.dst (.int .i64 ((f k).getD 0))) w) : wpList Try.prog ops Q (o :: rest) a w := by
 obtain ⟨D, h1, -, h3, -⟩ := h
 refine wpList_lookup_own_int w hg m x 91 hop 3 3 .i64 law3 Try.underlying91 Try.underlying3 (zero3 w) b n D hm h1 _ (litI k) hx (keyI hw) fun c hat hwc => ?_
 rw [h3 k] at hat
 simp only [DataW.lit.injEq, Lit.int.injEq, true_and] at hat
 rw [← hat]
 exact hK
theorem wp_mlen (h : MapI w b n f sz) (hg : o.guard = none) {m : Operand} (hop : o.op = Op.call { callee := Callee.builtin Builtin.len, args := #[m], argTypes := #[91] }) (hm : a.eval m = .map (some b))
  (hK : wpList Try.prog ops Q rest (a.put o.dst (.int .i64 (sz : Nat))) w) : wpList Try.prog ops Q (o :: rest) a w := by
 obtain ⟨D, h1, -, -, rfl⟩ := h
 exact wpList_len_own w hg m 91 hop 3 3 Try.underlying91 _ b n D hm h1 hK
theorem MapI.put (h : MapI w b n f sz) (hn : n < maxLen) {k v : Int} (hk : (Lit.int .i64 k).wf = true) (hv : (Lit.int .i64 v).wf = true) :
  ∃ w', (Instr.mapUpdate 91 (.map (some b)) (.int .i64 k) (.int .i64 v)).run Try.prog w = .ok () w' ∧ MapI w' b (n + 1) (fun x => if x = k then some v else f x) (if (f k).isSome then sz else sz + 1) ∧ w.grownBy w' (some b) := by
 obtain ⟨D, h1, h2, h3, h4⟩ := h
 obtain ⟨w', hr, ho, hg⟩ := h1.update law3 Try.underlying91 hn (keyI hk) (plainElem_int Try.underlying3 hv)
 have ht := h1.tidy law3
 have him := h1.isMap
 refine ⟨w', hr, ⟨_, ho, fun x => ?_, fun x => ?_, ?_⟩, hg⟩
 ·show _ = (if x = k then some v else f x).isSome
  by_cases e : x = k
  ·rw [if_pos e, e, has_put_same him (litI_key k)]; rfl
  ·rw [if_neg e, has_put_other (fun q => e (litI_inj q)), h2]
 ·show _ = DataW.lit (Lit.int IntKind.i64 ((if x = k then some v else f x).getD 0))
  by_cases e : x = k
  ·rw [if_pos e, e, atKey_put_same him (litI_key k)]; rfl
  ·rw [if_neg e, atKey_put_other (fun q => e (litI_inj q)), h3]
 ·rw [size_put ht, h2, h4]
theorem wp_mput (h : MapI w b n f sz) (hn : n < maxLen) (hg : o.guard = none) {m x y : Operand} (hop : o.op = Op.mapUpdate 91 m x y) (hm : a.eval m = .map (some b)) {k v : Int} (hx : a.eval x = .int .i64 k) (hy : a.eval y = .int .i64 v)
  (hk : (Lit.int .i64 k).wf = true) (hv : (Lit.int .i64 v).wf = true)
  (hK : ∀ w', MapI w' b (n + 1) (fun x => if x = k then some v else f x) (if (f k).isSome then sz else sz + 1) → w.grownBy w' (some b) → wpList Try.prog ops Q rest (a.put o.dst undef) w') : wpList Try.prog ops Q (o :: rest) a w := by
 obtain ⟨w', hr, ho, hgr⟩ := h.put hn hk hv
 refine wpList_plain hg fun K' hK' => ?_
 unfold Oper.wp
 simp [execOp, hop, hm, hx, hy, hr, Result.andThen]
 exact hK' _ _ (hK w' ho hgr)
end
end Go.Proofs.Ytlhpjfnfemebdaa
namespace Go.Proofs.Ytlhpjfnfemebdaa
open Go.RowKit
theorem IntsAt.frm {w w' : World} {v : Value} {l : List Int} {F : Nat → Prop} (h : IntsAt w v l) (hf : Frm F w w') (hno : ∀ k, v.ownBlock = some k → ¬ F k) : IntsAt w' v l := by
 obtain ⟨a, cap, rfl, hc⟩ := h
 refine ⟨a, cap, rfl, fun j hj => ?_⟩
 obtain ⟨b, off, rfl, h⟩ := hc j hj
 exact ⟨b, off, rfl, hf.cell h (hno b rfl)⟩
theorem BoolsAt.frm {w w' : World} {v : Value} {l : List Bool} {F : Nat → Prop} (h : BoolsAt w v l) (hf : Frm F w w') (hno : ∀ k, v.ownBlock = some k → ¬ F k) : BoolsAt w' v l := by
 obtain ⟨a, cap, rfl, hc⟩ := h
 refine ⟨a, cap, rfl, fun j hj => ?_⟩
 obtain ⟨b, off, rfl, h⟩ := hc j hj
 exact ⟨b, off, rfl, hf.cell h (hno b rfl)⟩
def RowsAt (w : World) (v : Value) (rows : List (List Int)) : Prop :=
 ∃ a cap, v = .slice a rows.length cap ∧ ∀ j, j < rows.length → ∃ b off u, a = some ⟨b, off, none⟩ ∧ w.cell? ⟨b, off + j, none⟩ = some u ∧ IntsAt w u (rows.getD j [])
theorem RowsAt.below {w w' : World} {v : Value} {rows : List (List Int)} (h : RowsAt w v rows) (hb : Below w.heap.size w w') : RowsAt w' v rows := by
 obtain ⟨a, cap, e, h⟩ := h
 refine ⟨a, cap, e, fun j hj => ?_⟩
 obtain ⟨b, off, u, e, h1, h2⟩ := h j hj
 exact ⟨b, off, u, e, bkeep hb h1, h2.below hb⟩
theorem rowsAt_nil (w : World) : RowsAt w (.slice none 0 0) [] := ⟨none, 0, rfl, fun j hj => by simp at hj⟩
theorem ownsRow_cell {w : World} {base : Nat} {e : TypeId} {v : Value} {n : Nat} {xs : List Value} (h : w.ownsRow base e 1 v n xs) {j : Nat} (hj : j < n) : ∃ b, v.ownBlock = some b ∧ (∃ cap, v = .slice (some ⟨b, 0, none⟩) n cap) ∧ w.cell? ⟨b, j, none⟩ = some (xs.getD j undef) := by
 obtain ⟨hl, h⟩ := h
 rcases h with ⟨rfl, rfl⟩ | ⟨g, cap, cur, rfl, hb, hg, hn, hc, hs, ht⟩
 ·omega
 ·refine ⟨g, rfl, ⟨cap, rfl⟩, cell_of_block hg j _ ?_⟩
  have hjx : j < xs.length := by omega
  rw [List.getD_eq_getElem?_getD, List.getElem?_eq_getElem hjx, Option.getD_some, ← List.getElem?_eq_getElem hjx, ← ht, List.getElem?_take, if_pos (by omega)]
  simp
theorem own_ints {w : World} {base : Nat} {v : Value} {l : List Int} (h : w.ownsRow base 3 1 v l.length (l.map (Value.int .i64))) : IntsAt w v l := by
 obtain ⟨hl, h'⟩ := h
 rcases h' with ⟨rfl, e⟩ | ⟨g, cap, cur, rfl, hb, hg, hn, hc, hs, ht⟩
 ·obtain rfl : l = [] := List.eq_nil_of_length_eq_zero e
  exact intsAt_nil w
 ·refine ⟨some ⟨g, 0, none⟩, cap, rfl, fun j hj => ⟨g, 0, rfl, ?_⟩⟩
  obtain ⟨b, e1, -, e2⟩ := ownsRow_cell (w := w) (base := base) (e := 3) (v := .slice (some ⟨g, 0, none⟩) l.length cap) (n := l.length) (xs := l.map (Value.int .i64)) ⟨hl, .inr ⟨g, cap, cur, rfl, hb, hg, hn, hc, hs, ht⟩⟩ hj
  obtain rfl : g = b := by simpa [Value.ownBlock] using e1
  rw [Nat.zero_add, e2]
  simp [hj]
structure RowsM (w : World) (base : Nat) (ov : Value) (rows : List (List Int)) (vals : List Value) : Prop where
 len : vals.length = rows.length
 out : w.ownsRow base 22 1 ov rows.length vals
 inn : ∀ j, j < rows.length → w.ownsRow base 3 1 (vals.getD j undef) (rows.getD j []).length ((rows.getD j []).map (Value.int .i64))
 apart : ∀ j k, j ≠ k → j < rows.length → k < rows.length → ∀ q, (vals.getD j undef).ownBlock = some q → (vals.getD k undef).ownBlock ≠ some q
 offO : ∀ j, j < rows.length → ∀ q, ov.ownBlock = some q → (vals.getD j undef).ownBlock ≠ some q
theorem rowsM_nil (w : World) (base : Nat) : RowsM w base (.slice none 0 0) [] [] :=
 ⟨rfl, World.ownsRow_nil _ _ _ _, fun j hj => by simp at hj, fun j k _ hj => by simp at hj, fun j hj => by simp at hj⟩
section
variable {w w' : World} {base : Nat} {ov : Value} {rows : List (List Int)} {vals : List Value}
theorem RowsM.frm (h : RowsM w base ov rows vals) {F : Nat → Prop} (hf : Frm F w w') (h1 : ∀ q, ov.ownBlock = some q → ¬ F q) (h2 : ∀ j, j < rows.length → ∀ q, (vals.getD j undef).ownBlock = some q → ¬ F q) : RowsM w' base ov rows vals :=
 ⟨h.len, ownsRow_frm h.out hf h1, fun j hj => ownsRow_frm (h.inn j hj) hf (h2 j hj), h.apart, h.offO⟩
theorem RowsM.more (h : RowsM w base ov rows vals) (hb : Below w.heap.size w w') : RowsM w' base ov rows vals :=
 h.frm (F := fun _ => False) (bfrm hb _) (fun _ _ => id) (fun _ _ _ _ => id)
theorem RowsM.drew (h : RowsM w base ov rows vals) : RowsM w.drew base ov rows vals := ⟨h.len, h.out, h.inn, h.apart, h.offO⟩
theorem RowsM.at (h : RowsM w base ov rows vals) : RowsAt w ov rows := by
 have hout := h.out
 obtain ⟨hl, h'⟩ := hout
 rcases h' with ⟨rfl, e⟩ | ⟨g, cap, cur, rfl, hb, hg, hn, hc, hs, ht⟩
 ·obtain rfl : rows = [] := List.eq_nil_of_length_eq_zero e
  exact rowsAt_nil w
 ·refine ⟨some ⟨g, 0, none⟩, cap, rfl, fun j hj => ⟨g, 0, vals.getD j undef, rfl, ?_, own_ints (h.inn j hj)⟩⟩
  obtain ⟨b, e1, -, e2⟩ := ownsRow_cell h.out hj
  obtain rfl : g = b := by simpa [Value.ownBlock] using e1
  rw [Nat.zero_add, e2]
theorem getD_snoc {α : Type} (l : List α) (x z : α) (j : Nat) (h : j ≤ l.length) : (l ++ [x]).getD j z = if j < l.length then l.getD j z else x := by
 simp only [List.getD_eq_getElem?_getD]
 by_cases hj : j < l.length
 ·rw [if_pos hj, List.getElem?_append_left hj]
 ·obtain rfl : j = l.length := by omega
  rw [if_neg hj]; simp
theorem RowsM.push (h : RowsM w base ov rows vals) {nv : Value} {row : List Int} {g cap : Nat} (hg : w.grownBy w' ov.ownBlock) (hor : ov.ownBlock = some g ∨ g = w.heap.size)
  (hown : w'.ownsRow base 22 1 (.slice (some ⟨g, 0, none⟩) (rows.length + 1) cap) (rows.length + 1) (vals ++ [nv]))
  (hn : w.ownsRow base 3 1 nv row.length (row.map (Value.int .i64))) (hn1 : ∀ q, nv.ownBlock = some q → ov.ownBlock ≠ some q) (hn2 : ∀ j, j < rows.length → ∀ q, nv.ownBlock = some q → (vals.getD j undef).ownBlock ≠ some q) :
  RowsM w' base (.slice (some ⟨g, 0, none⟩) (rows.length + 1) cap) (rows ++ [row]) (vals ++ [nv]) := by
 have hlen := h.len
 have hv : ∀ j, j ≤ rows.length → (vals ++ [nv]).getD j undef = if j < rows.length then vals.getD j undef else nv := fun j hj => by rw [getD_snoc _ _ _ _ (by omega), hlen]
 have hr : ∀ j, j ≤ rows.length → (rows ++ [row]).getD j [] = if j < rows.length then rows.getD j [] else row := fun j hj => getD_snoc _ _ _ _ hj
 have hol : ∀ j, j < rows.length → ∀ q, (vals.getD j undef).ownBlock = some q → q < w.heap.size := fun j hj q hq => ((h.inn j hj).lt q hq).2
 have key : ∀ (x : Value) (l : List Int), w.ownsRow base 3 1 x l.length (l.map (Value.int .i64)) → (∀ q, x.ownBlock = some q → ov.ownBlock ≠ some q) → w'.ownsRow base 3 1 x l.length (l.map (Value.int .i64)) := fun x l hx hno => by
  refine hx.kept hg ?_
  rcases e : x.ownBlock with _ | q
  ·exact .inl rfl
  ·exact .inr (fun e2 => hno q e e2.symm)
 have hofg : ∀ q x, Value.ownBlock x = some q → (∀ q, x.ownBlock = some q → ov.ownBlock ≠ some q) → q < w.heap.size → q ≠ g := fun q x hq hno hlt e => by
  subst e
  rcases hor with e2 | e2
  ·exact hno _ hq e2
  ·omega
 refine ⟨by simp [hlen], by simpa using hown, fun j hj => ?_, fun j k hjk hj hk q hq => ?_, fun j hj q hq => ?_⟩
 ·simp at hj
  rw [hv j (by omega), hr j (by omega)]
  by_cases e : j < rows.length
  ·rw [if_pos e, if_pos e]
   exact key _ _ (h.inn j e) (fun q hq e2 => h.offO j e q e2 hq)
  ·rw [if_neg e, if_neg e]
   exact key _ _ hn hn1
 ·simp at hj hk
  rw [hv j (by omega)] at hq
  rw [hv k (by omega)]
  by_cases e1 : j < rows.length
  ·rw [if_pos e1] at hq
   by_cases e2 : k < rows.length
   ·rw [if_pos e2]; exact h.apart j k hjk e1 e2 q hq
   ·rw [if_neg e2]; exact fun e3 => hn2 j e1 q e3 hq
  ·rw [if_neg e1] at hq
   rw [if_pos (by omega)]
   exact hn2 k (by omega) q hq
 ·simp at hj
  have hq' : g = q := by simpa [Value.ownBlock] using hq
  subst hq'
  rw [hv j (by omega)]
  by_cases e1 : j < rows.length
  ·rw [if_pos e1]
   exact fun e2 => hofg _ _ e2 (fun q hq e3 => h.offO j e1 q e3 hq) (hol j e1 _ e2) rfl
  ·rw [if_neg e1]
   exact fun e2 => hofg _ _ e2 hn1 (hn.lt _ e2).2 rfl
theorem RowsM.grow (h : RowsM w base ov rows vals) {k : Nat} (hk : k < rows.length) {x : Int} {m g cap : Nat} (hm : (rows.getD k []).length = m) (hg : w.grownBy w' (vals.getD k undef).ownBlock) (hor : (vals.getD k undef).ownBlock = some g ∨ g = w.heap.size)
  (hown : w'.ownsRow base 3 1 (.slice (some ⟨g, 0, none⟩) (m + 1) cap) (m + 1) ((rows.getD k []).map (Value.int .i64) ++ [.int .i64 x])) :
  ∃ ob oc, ov = .slice (some ⟨ob, 0, none⟩) rows.length oc ∧ (∃ u, w'.cell? ⟨ob, k, none⟩ = some u) ∧ w'.frozen? ⟨ob, k, none⟩ = false ∧ base ≤ ob ∧
   RowsM (w'.setCell ⟨ob, k, none⟩ (.slice (some ⟨g, 0, none⟩) (m + 1) cap)) base ov (rows.modify k (· ++ [x])) (vals.set k (.slice (some ⟨g, 0, none⟩) (m + 1) cap)) := by
 subst hm
 have hlen := h.len
 have hout : w'.ownsRow base 22 1 ov rows.length vals := by
  refine h.out.kept hg ?_
  rcases e : ov.ownBlock with _ | q
  ·exact .inl rfl
  ·exact .inr (fun e2 => h.offO k hk q e e2.symm)
 have holt : ∀ q, ov.ownBlock = some q → q < w.heap.size := fun q hq => (h.out.lt q hq).2
 have hkeep : ∀ j, j < rows.length → j ≠ k → w'.ownsRow base 3 1 (vals.getD j undef) (rows.getD j []).length ((rows.getD j []).map (Value.int .i64)) := fun j hj hjk => by
  refine (h.inn j hj).kept hg ?_
  rcases e : (vals.getD j undef).ownBlock with _ | q
  ·exact .inl rfl
  ·exact .inr (fun e2 => h.apart j k hjk hj hk q e e2.symm)
 obtain ⟨hxl, h'⟩ := hout
 rcases h' with ⟨-, e⟩ | ⟨ob, oc, cur, rfl, hob, hgb, hn, hc, hs, ht⟩
 ·omega
 have hobg : ob ≠ g := fun e => by
  subst e
  rcases hor with e2 | e2
  ·exact h.offO k hk ob rfl e2
  ·have := holt ob rfl; omega
 have hvs : ∀ j, (vals.set k (.slice (some ⟨g, 0, none⟩) ((rows.getD k []).length + 1) cap)).getD j undef = if j = k then .slice (some ⟨g, 0, none⟩) ((rows.getD k []).length + 1) cap else vals.getD j undef := fun j => getD_set _ _ _ _ _ (by omega)
 have hrs : ∀ j, j < rows.length → (rows.modify k (· ++ [x])).getD j [] = if j = k then rows.getD k [] ++ [x] else rows.getD j [] := fun j hj => by
  simp only [List.getD_eq_getElem?_getD, List.getElem?_modify]
  by_cases e : j = k
  ·subst e; simp [List.getElem?_eq_getElem hj]
  ·have e' : ¬ k = j := fun e2 => e e2.symm
   simp [e, e']
 have hf : Frm (fun q => q = ob) w' (w'.setCell ⟨ob, k, none⟩ (.slice (some ⟨g, 0, none⟩) ((rows.getD k []).length + 1) cap)) := (Frm.refl (fun q => q = ob) w').setCell (p := ⟨ob, k, none⟩) (fun _ => rfl) _
 have hgk : k < cur.size := by omega
 refine ⟨ob, oc, rfl, ⟨_, cell_of_block hgb k cur[k] (Array.getElem?_eq_getElem hgk)⟩, free_of_block hgb k, hob, ⟨by simp [hlen], ?_, fun j hj => ?_, fun j l hjl hj hl q hq => ?_, fun j hj q hq => ?_⟩⟩
 ·refine ⟨by simpa using hxl, .inr ⟨ob, oc, cur.setIfInBounds k (.slice (some ⟨g, 0, none⟩) ((rows.getD k []).length + 1) cap), by simp, hob, ?_, by simpa using hn, hc, by simpa using hs, ?_⟩⟩
  ·rw [heap_setCell_block hgb]
  ·rw [← ht, Array.toList_setIfInBounds, List.length_modify, ← List.take_set]
 ·simp at hj
  rw [hvs j, hrs j hj]
  by_cases e : j = k
  ·rw [if_pos e, if_pos e]
   have := ownsRow_frm hown hf (fun q hq e2 => hobg (by simp [Value.ownBlock] at hq; omega))
   simpa using this
  ·rw [if_neg e, if_neg e]
   exact ownsRow_frm (hkeep j hj e) hf (fun q hq e2 => h.offO j hj ob rfl (by rw [hq, e2]))
 ·simp at hj hl
  have hng : ∀ i, i < rows.length → i ≠ k → (vals.getD i undef).ownBlock ≠ some g := fun i hi hik e2 => by
   rcases hor with e3 | e3
   ·exact h.apart i k hik hi hk g e2 e3
   ·have := ((h.inn i hi).lt g e2).2; omega
  rw [hvs j] at hq
  rw [hvs l]
  by_cases e1 : j = k
  ·rw [if_pos e1] at hq
   have hq' : g = q := by simpa [Value.ownBlock] using hq
   subst hq'
   rw [if_neg (by omega)]
   exact hng l hl (by omega)
  ·rw [if_neg e1] at hq
   by_cases e2 : l = k
   ·rw [if_pos e2]
    intro e3
    have hq' : g = q := by simpa [Value.ownBlock] using e3
    subst hq'
    exact hng j hj e1 hq
   ·rw [if_neg e2]; exact h.apart j l hjl hj hl q hq
 ·simp at hj
  have hq' : ob = q := by simpa [Value.ownBlock] using hq
  subst hq'
  rw [hvs j]
  by_cases e1 : j = k
  ·rw [if_pos e1]
   intro e3
   exact hobg (by simp [Value.ownBlock] at e3; omega)
  ·rw [if_neg e1]; exact h.offO j hj ob rfl
end
end Go.Proofs.Ytlhpjfnfemebdaa
namespace Go.Proofs.Ytlhpjfnfemebdaa
open Go.RowKit
theorem ownv {w : World} {base : Nat} {e : TypeId} {size : Nat} {v : Value} {n : Nat} {xs : List Value} (h : w.ownsRow base e size v n xs) : ∃ a c, v = .slice a n c := by
 rcases h.2 with ⟨rfl, e⟩ | ⟨g, cap, cur, rfl, -⟩
 ·exact ⟨none, 0, by rw [e]⟩
 ·exact ⟨_, cap, rfl⟩
theorem ownm {w w' : World} {base : Nat} {e : TypeId} {size : Nat} {v : Value} {n : Nat} {xs : List Value} (h : w.ownsRow base e size v n xs) (hb : Below w.heap.size w w') : w'.ownsRow base e size v n xs := ownsRow_frm (F := fun _ => False) h (bfrm hb _) (fun _ _ => id)
theorem ownset {w : World} {base : Nat} {e : TypeId} {g n cap : Nat} {xs : List Value} (h : w.ownsRow base e 1 (.slice (some ⟨g, 0, none⟩) n cap) n xs) {i : Nat} (_hi : i < n) (u : Value) :
  (w.setCell ⟨g, i, none⟩ u).ownsRow base e 1 (.slice (some ⟨g, 0, none⟩) n cap) n (xs.set i u) ∧ w.frozen? ⟨g, i, none⟩ = false := by
 obtain ⟨hl, h'⟩ := h
 rcases h' with ⟨e', -⟩ | ⟨g', cap', cur, e', hb, hg, hn, hc, hs, ht⟩
 ·cases e'
 ·simp only [Value.slice.injEq, Option.some.injEq, Addr.mk.injEq, and_true, true_and] at e'
  obtain ⟨rfl, rfl⟩ := e'
  refine ⟨⟨by rw [List.length_set]; exact hl, .inr ⟨g, cap, cur.setIfInBounds i u, rfl, hb, ?_, hn, hc, by simpa using hs, ?_⟩⟩, free_of_block hg i⟩
  ·rw [heap_setCell_block hg]
  ·rw [← ht, Array.toList_setIfInBounds, ← List.take_set]
theorem below_own {w wr w' : World} (h : Below w.heap.size w wr) {e : TypeId} {size : Nat} {v : Value} {m : Nat} {xs : List Value} {o : Obj} (ho : wr.ownsRow w.heap.size e size v m xs) (hg : (wr.alloc o).grownBy w' v.ownBlock) : Below w.heap.size w w' :=
 (h.alloc h.size o).grown hg (by have := h.size; simp; omega) (fun k hk => (ho.lt k hk).1)
def OwnI (base : Nat) (w : World) (v : Value) (l : List Int) : Prop := w.ownsRow base 3 1 v l.length (l.map (Value.int .i64))
theorem OwnI.cell {base : Nat} {w : World} {g cap : Nat} {l : List Int} (h : OwnI base w (.slice (some ⟨g, 0, none⟩) l.length cap) l) {j : Nat} (hj : j < l.length) : w.cell? ⟨g, j, none⟩ = some (.int .i64 (l.getD j 0)) := by
 have := World.ownsRow.cellAt h j (by omega)
 rw [this]
 simp [List.getD_eq_getElem?_getD, hj]
theorem OwnI.form {base : Nat} {w : World} {v : Value} {l : List Int} (h : OwnI base w v l) (hn : 0 < l.length) : ∃ g cap, v = .slice (some ⟨g, 0, none⟩) l.length cap ∧ base ≤ g ∧ g < w.heap.size := World.ownsRow.form h hn
theorem OwnI.ints {base : Nat} {w : World} {v : Value} {l : List Int} (h : OwnI base w v l) : IntsAt w v l := own_ints h
theorem OwnI.more {base : Nat} {w w' : World} {v : Value} {l : List Int} (h : OwnI base w v l) (hb : Below w.heap.size w w') : OwnI base w' v l := ownm h hb
theorem OwnI.set {base : Nat} {w : World} {g cap : Nat} {l : List Int} (h : OwnI base w (.slice (some ⟨g, 0, none⟩) l.length cap) l) {j : Nat} (hj : j < l.length) (x : Int) :
  OwnI base (w.setCell ⟨g, j, none⟩ (.int .i64 x)) (.slice (some ⟨g, 0, none⟩) l.length cap) (l.set j x) ∧ w.frozen? ⟨g, j, none⟩ = false := by
 obtain ⟨h1, h2⟩ := ownset (e := 3) h hj (.int .i64 x)
 refine ⟨?_, h2⟩
 unfold OwnI
 rw [List.length_set, List.map_set]
 exact h1
theorem OwnI.pop {base : Nat} {w : World} {g cap m : Nat} {l : List Int} (h : OwnI base w (.slice (some ⟨g, 0, none⟩) (m + 1) cap) l) (hm : l.length = m + 1) : OwnI base w (.slice (some ⟨g, 0, none⟩) m cap) (l.take m) := by
 unfold OwnI at h ⊢
 rw [hm] at h
 have hl : (l.take m).length = m := by rw [List.length_take]; omega
 rw [hl]
 refine ownsRow_pop (last := (l.drop m).map (Value.int .i64)) (by simp; omega) ?_
 rw [← List.map_append, List.take_append_drop]
 exact h
theorem OwnI.nil (base : Nat) (w : World) : OwnI base w (.slice none 0 0) [] := World.ownsRow_nil _ _ _ _
end Go.Proofs.Ytlhpjfnfemebdaa
namespace Go.Proofs.Ytlhpjfnfemebdaa
open Go.RowKit
structure SrcC (w : World) (xv : Value) (m size : Nat) (news : List Value) : Prop where
 ex : ∃ a c, xv = .slice a m c ∧ (0 < m → ∃ b off, a = some ⟨b, off, none⟩ ∧ ∀ j u, news[j]? = some u → w.cell? ((⟨b, off, none⟩ : Addr).add j) = some u)
 len : news.length = m * size
 one : ∀ u ∈ news, u.oneCell' = true
theorem run_gcopy {P : Program} {w : World} {t ty e : TypeId} {i : TypeInfo} {z : Value} {size bytes : Nat} (ht : P.underlying t = some (.slice e)) (hi : P.info? e = some i) (hz : i.zero = some z) (hsize : i.size = size) (hby : i.bytes = bytes) (hzs : z.cells.size = size) (hsz : 0 < size)
  (base : Nat) {xv : Value} {m : Nat} {news : List Value} (hx : SrcC w xv m size news) (hm : m ≤ 1000000) (hb1 : bytes ≤ 1000000) (hbase : base ≤ w.heap.size) :
  ∃ ad cap w', (Builtin.append_ #[t, t] ty #[.slice none 0 0, xv]).run P w = .ok (.slice ad m cap) w' ∧ w'.ownsRow base e size (.slice ad m cap) m news ∧ w.grownBy w' none ∧ (∀ k, Value.ownBlock (.slice ad m cap) = some k → k = w.heap.size) := by
 obtain ⟨⟨a, c, rfl, hc⟩, hl, ho⟩ := hx
 by_cases h0 : m = 0
 ·subst h0
  have hn : news = [] := List.eq_nil_of_length_eq_zero (by omega)
  subst hn
  refine ⟨none, 0, w, ?_, World.ownsRow_nil _ _ _ _, ⟨rfl, rfl, rfl, Nat.le_refl _, fun _ _ _ => rfl⟩, fun k hk => by cases hk⟩
  have hs : Go.Src P i.size t (.slice a 0 c) 0 [] w := by
   cases a with
   | none => exact Go.Src.ofNil w ht c
   | some x => exact Go.Src.ofSlice w ht x 0 c [] (by simp) (fun j u hu => by simp at hu) (fun _ hu => by cases hu)
  simp [Builtin.append_, run_underlying ht, sizeOf, typeInfo, hi, hs.len, hs.cells]
 ·obtain ⟨b, off, rfl, hcl⟩ := hc (by omega)
  have hbb : m * bytes ≤ 1000000 * 1000000 := Nat.mul_le_mul hm hb1
  obtain ⟨g, cap, w', q1, q2, q3, q4, q5⟩ := run_append_lies (P := P) w t ty base e i z size bytes ht hi hz hsize hby hzs hsz (.slice none 0 0) 0 [] (World.ownsRow_nil _ _ _ _) ⟨b, off, none⟩ m c news hl hcl ho (by omega) (by unfold maxLen; omega) (by rw [Nat.zero_add]; omega) hbase w.heap.size rfl
  rw [Nat.zero_add] at q1 q2
  refine ⟨_, _, w', q1, q2, q3, fun k hk => ?_⟩
  obtain rfl : g = k := by simpa [Value.ownBlock] using hk
  rcases q4 with q4 | q4
  ·cases q4
  ·exact q4
section
variable {P : Program} {ops : Array Oper} {rest : List Oper} {o : Oper} {a : Act} {Q : Exit → Act → World → Prop}
theorem wp_gcopy {w : World} {t e : TypeId} {i : TypeInfo} {z : Value} {size bytes : Nat} (hg : o.guard = none) (s x : Operand) (hop : o.op = .call { callee := .builtin .append, args := #[s, x], argTypes := #[t, t] })
  (ht : P.underlying t = some (.slice e)) (hi : P.info? e = some i) (hz : i.zero = some z) (hsize : i.size = size) (hby : i.bytes = bytes) (hzs : z.cells.size = size) (hsz : 0 < size)
  (base : Nat) (hs : a.eval s = .slice none 0 0) {xv : Value} {m : Nat} {news : List Value} (hxe : a.eval x = xv) (hx : SrcC w xv m size news) (hm : m ≤ 1000000) (hb1 : bytes ≤ 1000000) (hbase : base ≤ w.heap.size)
  (hK : ∀ ad cap w', w'.ownsRow base e size (.slice ad m cap) m news → w.grownBy w' none → (∀ k, Value.ownBlock (.slice ad m cap) = some k → k = w.heap.size) → wpList P ops Q rest (a.put o.dst (.slice ad m cap)) w') : wpList P ops Q (o :: rest) a w := by
 refine wpList_plain hg fun K' hK' => ?_
 obtain ⟨ad, cap, w', hr, h2, h3, h4⟩ := run_gcopy (ty := o.type) ht hi hz hsize hby hzs hsz base hx hm hb1 hbase
 unfold Oper.wp execOp
 simp only [hop, resolve, invoke, builtin, Sem.run_bind, Sem.run_pure, Result.andThen_ok, List.map_toArray, List.map_cons, List.map_nil, hs, hxe, hr]
 exact hK' _ _ (hK ad cap w' h2 h3 h4)
end
theorem IntsAt.src {w : World} {v : Value} {l : List Int} (h : IntsAt w v l) : SrcC w v l.length 1 (l.map (Value.int .i64)) := by
 obtain ⟨a, c, rfl, hc⟩ := h
 refine ⟨⟨a, c, rfl, fun hm => ?_⟩, by simp, fun u hu => by obtain ⟨y, -, rfl⟩ := List.mem_map.1 hu; rfl⟩
 obtain ⟨b, off, rfl, -⟩ := hc 0 hm
 refine ⟨b, off, rfl, fun j u hu => ?_⟩
 have hj : j < l.length := by
  rcases Nat.lt_or_ge j l.length with q | q
  ·exact q
  ·rw [List.getElem?_eq_none (by simpa using q)] at hu; cases hu
 obtain ⟨b', o', e, hcl⟩ := hc j hj
 cases e
 rw [Go.WideShapes.add_plain, hcl, ← hu]
 simp [List.getD_eq_getElem?_getD, hj]
def enCells : List En → List Value
 | [] => []
 | x :: l => .int .i64 x.1 :: .int .i64 x.2 :: enCells l
theorem enCells_len : ∀ l : List En, (enCells l).length = l.length * 2
 | [] => rfl
 | x :: l => by rw [enCells, List.length_cons, List.length_cons, enCells_len l, List.length_cons]; omega
theorem enCells_at : ∀ (l : List En) (j : Nat), j < l.length → (enCells l)[j * 2]? = some (.int .i64 (l.getD j (0, 0)).1) ∧ (enCells l)[j * 2 + 1]? = some (.int .i64 (l.getD j (0, 0)).2)
 | [], j, h => by simp at h
 | x :: l, 0, _ => ⟨rfl, rfl⟩
 | x :: l, j + 1, h => by
  have := enCells_at l j (by simpa using h)
  rw [enCells, show (j + 1) * 2 = j * 2 + 2 by omega]
  simpa using this
theorem enCells_app : ∀ a b : List En, enCells (a ++ b) = enCells a ++ enCells b
 | [], b => rfl
 | x :: a, b => by rw [List.cons_append, enCells, enCells_app a b, enCells]; rfl
theorem enCells_one : ∀ (l : List En), ∀ u ∈ enCells l, u.oneCell' = true
 | [], u, h => by simp [enCells] at h
 | x :: l, u, h => by
  rw [enCells] at h
  rcases List.mem_cons.1 h with rfl | h
  ·rfl
  rcases List.mem_cons.1 h with rfl | h
  ·rfl
  exact enCells_one l u h
theorem EnsAt.src {w : World} {v : Value} {l : List En} (h : EnsAt w v l) : SrcC w v l.length 2 (enCells l) := by
 obtain ⟨a, c, rfl, hc⟩ := h
 refine ⟨⟨a, c, rfl, fun hm => ?_⟩, enCells_len l, enCells_one l⟩
 obtain ⟨b, off, rfl, -⟩ := hc 0 hm
 refine ⟨b, off, rfl, fun j u hu => ?_⟩
 have hj : j < l.length * 2 := by
  rcases Nat.lt_or_ge j (l.length * 2) with q | q
  ·exact q
  ·rw [List.getElem?_eq_none (by rw [enCells_len]; exact q)] at hu; cases hu
 obtain ⟨b', o', e, h1, h2⟩ := hc (j / 2) (by omega)
 cases e
 obtain ⟨q1, q2⟩ := enCells_at l (j / 2) (by omega)
 rw [Go.WideShapes.add_plain]
 rcases Nat.mod_two_eq_zero_or_one j with hm2 | hm2
 ·rw [show j = j / 2 * 2 by omega] at hu ⊢
  rw [q1] at hu
  rw [h1, ← hu]
 ·rw [show j = j / 2 * 2 + 1 by omega] at hu ⊢
  rw [q2] at hu
  rw [← Nat.add_assoc, h2, ← hu]
def OwnE (base : Nat) (w : World) (v : Value) (l : List En) : Prop := w.ownsRow base 103 2 v l.length (enCells l)
theorem OwnE.nil (base : Nat) (w : World) : OwnE base w (.slice none 0 0) [] := World.ownsRow_nil _ _ _ _
theorem OwnE.more {base : Nat} {w w' : World} {v : Value} {l : List En} (h : OwnE base w v l) (hb : Below w.heap.size w w') : OwnE base w' v l := ownm h hb
theorem OwnE.ens {base : Nat} {w : World} {v : Value} {l : List En} (h : OwnE base w v l) : EnsAt w v l := by
 rcases Nat.eq_zero_or_pos l.length with h0 | h0
 ·obtain rfl : l = [] := List.eq_nil_of_length_eq_zero h0
  obtain ⟨a, c, rfl⟩ := ownv h
  exact ⟨a, c, rfl, fun j hj => by simp at hj⟩
 ·obtain ⟨g, cap, rfl, -, -⟩ := World.ownsRow.form h h0
  refine ⟨_, _, rfl, fun j hj => ⟨g, 0, rfl, ?_, ?_⟩⟩
  ·have := World.ownsRow.cellAt h (j * 2) (by omega)
   rw [Nat.zero_add, this, (enCells_at l j hj).1]
  ·have := World.ownsRow.cellAt h (j * 2 + 1) (by omega)
   rw [Nat.zero_add, this, (enCells_at l j hj).2]
theorem Try.info103 : (Try.prog.info? 103).map (fun i => (i.zero, i.size, i.bytes)) = some (some (.agg #[.int .i64 0, .int .i64 0]), 2, 16) := by kernel_rfl
end Go.Proofs.Ytlhpjfnfemebdaa
namespace Go.Proofs.Ytlhpjfnfemebdaa
open Go.RowKit
def evS (mod : Int) (own s : List Int) (x : Ed) : List Int :=
 if x.1 = 1 then s ++ [x.2.1 % mod] else if x.1 = 2 then s ++ [own.getD x.2.1.toNat 0] else if x.1 = 5 then s.set (s.length - 1) (truI (s.getD (s.length - 1) 0 == 0))
 else (s.set (s.length - 2) (twoI x.1 (s.getD (s.length - 2) 0) (s.getD (s.length - 1) 0) mod)).take (s.length - 1)
def evK (mod : Int) (own : List Int) : List Int → List Ed → List Int
 | s, [] => s
 | s, x :: l => evK mod own (evS mod own s x) l
def valI (mod : Int) (own : List Int) (l : List Ed) : Int := if codeB (own.length : Int) l = true then (evK mod own [] l).getD 0 0 else 0
theorem evK_step {mod : Int} {own s : List Int} {l : List Ed} {k : Nat} (h : k < l.length) : evK mod own s (l.drop k) = evK mod own (evS mod own s (l.getD k (0, 0, 0))) (l.drop (k + 1)) := by rw [drop_ops h, evK]
theorem allR_append {s : List Int} {m x : Int} (h : allR s m = true) (hx : 0 ≤ x ∧ x < m) : allR (s ++ [x]) m = true := by
 refine allR_iff.2 fun y hy => ?_
 rcases List.mem_append.1 hy with hy | hy
 ·exact (allR_iff.1 h) y hy
 ·rw [List.mem_singleton.1 hy]; exact hx
theorem allR_get {s : List Int} {m : Int} (h : allR s m = true) {j : Nat} (hj : j < s.length) : 0 ≤ s.getD j 0 ∧ s.getD j 0 < m := (allR_iff.1 h) _ (by simp [List.getD, hj])
theorem allR_set {s : List Int} {m x : Int} (h : allR s m = true) (hx : 0 ≤ x ∧ x < m) (j : Nat) : allR (s.set j x) m = true := by
 refine allR_iff.2 fun y hy => ?_
 rcases List.mem_or_eq_of_mem_set hy with hy | rfl
 ·exact (allR_iff.1 h) y hy
 ·exact hx
theorem allR_take {s : List Int} {m : Int} (h : allR s m = true) (j : Nat) : allR (s.take j) m = true := allR_iff.2 fun y hy => (allR_iff.1 h) y (List.mem_of_mem_take hy)
theorem truI_in (b : Bool) {m : Int} (hm : 2 ≤ m) : 0 ≤ truI b ∧ truI b < m := by cases b <;> simp [truI] <;> omega
structure EvOk (mod : Int) (own : List Int) (s : List Int) (l : List Ed) (k : Nat) : Prop where
 lie : lieS (s.length : Int) (l.drop k) = 1
 all : allR s mod = true
theorem EvOk.cases {mod : Int} {own s : List Int} {l : List Ed} {k : Nat} (h : EvOk mod own s l k) (hk : k < l.length) (ho : opOk (own.length : Int) (l.getD k (0, 0, 0)) = true) :
  ((l.getD k (0, 0, 0)).1 = 1 ∧ 0 ≤ (l.getD k (0, 0, 0)).2.1 ∧ (l.getD k (0, 0, 0)).2.1 < 10000) ∨ ((l.getD k (0, 0, 0)).1 = 2 ∧ 0 ≤ (l.getD k (0, 0, 0)).2.1 ∧ (l.getD k (0, 0, 0)).2.1 < (own.length : Int)) ∨ ((l.getD k (0, 0, 0)).1 = 5 ∧ 1 ≤ s.length) ∨ (6 ≤ (l.getD k (0, 0, 0)).1 ∧ (l.getD k (0, 0, 0)).1 ≤ 14 ∧ 2 ≤ s.length) := by
 have hl := h.lie
 unfold opOk at ho
 by_cases h1 : (l.getD k (0, 0, 0)).1 = 1
 ·rw [if_pos h1] at ho; exact .inl ⟨h1, inR_iff.1 ho⟩
 rw [if_neg h1] at ho
 by_cases h2 : (l.getD k (0, 0, 0)).1 = 2
 ·rw [if_pos h2] at ho; exact .inr (.inl ⟨h2, inR_iff.1 ho⟩)
 rw [if_neg h2, decide_eq_true_iff] at ho
 by_cases h3 : (l.getD k (0, 0, 0)).1 = 5 ∧ 1 ≤ (s.length : Int)
 ·exact .inr (.inr (.inl ⟨h3.1, by omega⟩))
 by_cases h4 : 6 ≤ (l.getD k (0, 0, 0)).1 ∧ (l.getD k (0, 0, 0)).1 ≤ 14 ∧ 2 ≤ (s.length : Int)
 ·exact .inr (.inr (.inr ⟨h4.1, h4.2.1, by omega⟩))
 rw [lieS_bad hk ⟨by omega, h3, h4⟩] at hl
 omega
theorem evS_1 {mod : Int} {own s : List Int} {x : Ed} (h : x.1 = 1) : evS mod own s x = s ++ [x.2.1 % mod] := by unfold evS; rw [if_pos h]
theorem evS_2 {mod : Int} {own s : List Int} {x : Ed} (h : x.1 = 2) : evS mod own s x = s ++ [own.getD x.2.1.toNat 0] := by unfold evS; rw [if_neg (by omega), if_pos h]
theorem evS_5 {mod : Int} {own s : List Int} {x : Ed} (h : x.1 = 5) : evS mod own s x = s.set (s.length - 1) (truI (s.getD (s.length - 1) 0 == 0)) := by unfold evS; rw [if_neg (by omega), if_neg (by omega), if_pos h]
theorem evS_6 {mod : Int} {own s : List Int} {x : Ed} (h : 6 ≤ x.1) : evS mod own s x = (s.set (s.length - 2) (twoI x.1 (s.getD (s.length - 2) 0) (s.getD (s.length - 1) 0) mod)).take (s.length - 1) := by unfold evS; rw [if_neg (by omega), if_neg (by omega), if_neg (by omega)]
theorem EvOk.next {mod : Int} {own s : List Int} {l : List Ed} {k : Nat} (hm : 2 ≤ mod) (hown : allR own mod = true) (h : EvOk mod own s l k) (hk : k < l.length) (ho : opOk (own.length : Int) (l.getD k (0, 0, 0)) = true) : EvOk mod own (evS mod own s (l.getD k (0, 0, 0))) l (k + 1) := by
 have hl := h.lie
 rcases h.cases hk ho with ⟨h1, h2, h3⟩ | ⟨h1, h2, h3⟩ | ⟨h1, h2⟩ | ⟨h1, h2, h3⟩
 ·rw [evS_1 h1]
  rw [lieS_leaf hk (by omega)] at hl
  exact ⟨by rw [List.length_append]; simpa using hl, allR_append h.all ⟨Int.emod_nonneg _ (by omega), Int.emod_lt_of_pos _ (by omega)⟩⟩
 ·rw [evS_2 h1]
  rw [lieS_leaf hk (by omega)] at hl
  exact ⟨by rw [List.length_append]; simpa using hl, allR_append h.all (allR_get hown (by omega))⟩
 ·rw [evS_5 h1]
  rw [lieS_not hk (by omega)] at hl
  exact ⟨by rw [List.length_set]; exact hl, allR_set h.all (truI_in _ hm) _⟩
 ·rw [evS_6 h1]
  rw [lieS_two hk (by omega)] at hl
  refine ⟨?_, allR_take (allR_set h.all (twoI_in hm) _) _⟩
  rw [List.length_take, List.length_set, Nat.min_eq_left (by omega)]
  rw [← hl]; congr 1; omega
theorem EvOk.start {mod : Int} {own : List Int} {l : List Ed} (h : codeB (own.length : Int) l = true) : EvOk mod own [] l 0 := ⟨(codeB_iff.1 h).2, rfl⟩
theorem EvOk.len {mod : Int} {own s : List Int} {l : List Ed} (h : EvOk mod own s l l.length) : s.length = 1 := by
 have := h.lie
 rw [List.drop_length] at this
 have : (s.length : Int) = 1 := this
 omega
theorem evK_in {mod : Int} {own : List Int} {l : List Ed} (hm : 2 ≤ mod) (hown : allR own mod = true) (hc : ∀ k, k < l.length → opOk (own.length : Int) (l.getD k (0, 0, 0)) = true) : ∀ (d k : Nat) (s : List Int), k + d = l.length → EvOk mod own s l k → (evK mod own s (l.drop k)).length = 1 ∧ allR (evK mod own s (l.drop k)) mod = true
 | 0, k, s, hk, h => by
  obtain rfl : k = l.length := by omega
  rw [List.drop_length]
  exact ⟨h.len, h.all⟩
 | d + 1, k, s, hk, h => by
  rw [evK_step (by omega)]
  exact evK_in hm hown hc d (k + 1) _ (by omega) (h.next hm hown (by omega) (hc k (by omega)))
theorem code_ops {own : Int} {l : List Ed} (h : codeB own l = true) {k : Nat} (hk : k < l.length) : opOk own (l.getD k (0, 0, 0)) = true := (codeB_iff.1 h).1 _ (by simp [List.getD, hk])
theorem valI_in {mod : Int} {own : List Int} {l : List Ed} (hm : 2 ≤ mod) (hown : allR own mod = true) : 0 ≤ valI mod own l ∧ valI mod own l < mod := by
 unfold valI
 split
 ·rename_i h
  obtain ⟨h1, h2⟩ := evK_in hm hown (fun k hk => code_ops h hk) l.length 0 [] (by omega) (EvOk.start h)
  rw [List.drop_zero] at h1 h2
  exact allR_get h2 (by omega)
 ·omega
end Go.Proofs.Ytlhpjfnfemebdaa
