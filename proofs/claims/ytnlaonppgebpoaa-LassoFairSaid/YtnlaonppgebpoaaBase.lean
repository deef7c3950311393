/-
  Laws of my own over any program: a region whose last operations write; a run equation as a law; copy out of a text. What a slice of numbers, of truths, of edges, and a graph, read as. A right graph's edges, node by node: no program in sight. The plain theory of a graph's edges, node by node (counting sort): no program in sight. What is built of a graph's edges, and a built graph's edges: no program in sight.
-/
import Derived.WalkKit
import Derived.WalkSpells
import Derived.WalkLawsBesides
import Derived.Lib.Hide
import Derived.StillTailTactics
import Derived.Deep.QuietTactic
import Derived.BigQuiet
import Derived.Deep.Slices
import Derived.Deep.LoopGhost
import Derived.Deep.DeepCutAuto
import Derived.Deep.DeepMust
import Derived.Deep.DeepFit
import Derived.KernelRfl
namespace Go.Proofs.Ytnlaonppgebpoaa
open Go.RowKit

theorem region_tail {P : Program} {id : Nat} {Q : Exit → Act → World → Prop} {a : Act} {w : World} {l : List Oper} (n : Nat) (hm : P.follows .mixedOrders = true) (hB : Region.lexTailB .any l.toArray n = true)
    (h : wpStill P l.toArray w.drew (fun a' => wpList P l.toArray Q (l.drop n) a' w.drew) (l.take n) a) : (Code.region id l.toArray true).wp P Q a w := wp_region_still_tail n hm hB h

/-- A world that below block number N is w's, as a thing of its own: a class of worlds for a region that draws its order. -/
def Sub (w : World) : Type := { w' : World // Below w.heap.size w w' }

instance (w : World) : Nonempty (Sub w) := ⟨⟨w, Below.refl _ _⟩⟩

/-- A region that draws its order, whose operations read old memory and whose callees lay blocks of their own: ONE walk in the order of the text. -/
theorem region_below {P : Program} {id : Nat} {Q : Exit → Act → World → Prop} {a : Act} {w : World} {l : List Oper} (hm : P.follows .mixedOrders = true) (hB : Region.lexB .any l.toArray = true)
    (h : wpQuiet P l.toArray (fun w' => ∃ i : Sub w, w' = i.1) (fun a' => ∀ w', Below w.heap.size w w' → Q .normal a' w') l a) : (Code.region id l.toArray true).wp P Q a w := by
  refine wp_region_quiet (C := fun w' => ∃ i : Sub w, w' = i.1) hm hB ⟨⟨w.drew, (Below.refl _ _).drew⟩, rfl⟩ ?_
  have e : (fun a' => ∀ w', (∃ i : Sub w, w' = i.1) → Q .normal a' w') = (fun a' => ∀ w', Below w.heap.size w w' → Q .normal a' w') := by
    funext a'; apply propext
    exact ⟨fun h w' hw => h w' ⟨⟨w', hw⟩, rfl⟩, fun h w' ⟨i, hi⟩ => by subst hi; exact h _ i.2⟩
  rw [e]; simpa using h

theorem Calls.sub_of {P : Program} {f : FuncId} {args : Array Value} {w : World} {i : Sub w} {v : Value}
    (h : Calls P f args i.1 fun e w' => e = .returned v ∧ Below i.1.heap.size i.1 w') : Calls P f args i.1 fun e w'' => e = .returned v ∧ ∃ j : Sub w, w'' = j.1 :=
  h.mono fun _ w' ⟨he, hb⟩ => ⟨he, ⟨w', i.2.trans (hb.mono i.2.size)⟩, rfl⟩

theorem Sub.cell {w : World} (i : Sub w) {p : Addr} {v : Value} (h : w.cell? p = some v) : i.1.cell? p = some v := by
  rw [i.2.cell (World.block_lt_of_cell? w p h)]; exact h
theorem bkeep {w w' : World} (hb : Below w.heap.size w w') {p : Addr} {v : Value} (h : w.cell? p = some v) : w'.cell? p = some v := by
  rw [hb.cell (World.block_lt_of_cell? w p h)]; exact h
theorem bheap {w w' : World} (hb : Below w.heap.size w w') {k : Nat} {o : Obj} (h : w.heap[k]? = some o) : w'.heap[k]? = some o := by
  rw [hb.block k (Array.getElem?_eq_some_iff.1 h).1]; exact h

/-- Between w and w' nothing turned but the old blocks of which F says so, and new ones. -/
structure Frm (F : Nat → Prop) (w w' : World) : Prop where
  os : w'.os = w.os
  tape : w'.tape = w.tape
  output : w'.output = w.output
  size : w.heap.size ≤ w'.heap.size
  block : ∀ k, k < w.heap.size → ¬ F k → w'.heap[k]? = w.heap[k]?

theorem Frm.refl (F : Nat → Prop) (w : World) : Frm F w w := ⟨rfl, rfl, rfl, Nat.le_refl _, fun _ _ _ => rfl⟩
theorem Frm.trans {F : Nat → Prop} {a b c : World} (h : Frm F a b) (k : Frm F b c) : Frm F a c :=
  ⟨k.os.trans h.os, k.tape.trans h.tape, k.output.trans h.output, Nat.le_trans h.size k.size, fun i hi hF => (k.block i (Nat.lt_of_lt_of_le hi h.size) hF).trans (h.block i hi hF)⟩
/-- The second step may turn what is new behind the first one, too. -/
theorem Frm.trans' {F G : Nat → Prop} {a b c : World} (h : Frm F a b) (k : Frm G b c) (hG : ∀ i, i < a.heap.size → G i → F i) : Frm F a c :=
  ⟨k.os.trans h.os, k.tape.trans h.tape, k.output.trans h.output, Nat.le_trans h.size k.size, fun i hi hF => (k.block i (Nat.lt_of_lt_of_le hi h.size) (fun g => hF (hG i hi g))).trans (h.block i hi hF)⟩
theorem Frm.mono {F G : Nat → Prop} {w w' : World} (h : Frm F w w') (hFG : ∀ k, k < w.heap.size → F k → G k) : Frm G w w' :=
  ⟨h.os, h.tape, h.output, h.size, fun k hk hG => h.block k hk (fun f => hG (hFG k hk f))⟩
theorem Frm.drew {F : Nat → Prop} {a w : World} (h : Frm F a w) : Frm F a w.drew := ⟨h.os, h.tape, h.output, h.size, h.block⟩
theorem Frm.alloc {F : Nat → Prop} {a w : World} (h : Frm F a w) (o : Obj) : Frm F a (w.alloc o) :=
  ⟨h.os, h.tape, h.output, by simp; have := h.size; omega, fun k hk hF => (Below.heap_alloc w o k (Nat.lt_of_lt_of_le hk h.size)).trans (h.block k hk hF)⟩
theorem Frm.setCell {F : Nat → Prop} {a w : World} (h : Frm F a w) {p : Addr} (hp : p.block < a.heap.size → F p.block) (u : Value) : Frm F a (w.setCell p u) :=
  ⟨h.os, h.tape, h.output, by simpa using h.size, fun k hk hF => (Below.heap_setCell w p u k (fun e => hF (e ▸ hp (e ▸ hk)))).trans (h.block k hk hF)⟩
theorem Frm.setRow {F : Nat → Prop} {a w : World} (h : Frm F a w) {g : Nat} (hp : g < a.heap.size → F g) (cs : Array Value) : Frm F a (w.setRow g cs) :=
  ⟨h.os, h.tape, h.output, by simpa using h.size, fun k hk hF => (setRow_other w g k cs (fun e => hF (e ▸ hp (e ▸ hk)))).trans (h.block k hk hF)⟩
theorem Frm.grown {F : Nat → Prop} {a w w' : World} {row : Option Nat} (h : Frm F a w) (hg : w.grownBy w' row) (hr : ∀ k, row = some k → k < a.heap.size → F k) : Frm F a w' :=
  ⟨hg.os.trans h.os, hg.tape.trans h.tape, hg.output.trans h.output, Nat.le_trans h.size hg.size,
    fun k hk hF => (hg.block k (Nat.lt_of_lt_of_le hk h.size) (fun e => hF (hr k e.symm hk))).trans (h.block k hk hF)⟩
theorem bfrm {w w' : World} (h : Below w.heap.size w w') (F : Nat → Prop) : Frm F w w' := ⟨h.os, h.tape, h.output, h.size, fun k hk _ => h.block k hk⟩
theorem Frm.below {F : Nat → Prop} {w w' : World} (h : Frm F w w') {B : Nat} (hB : ∀ k, F k → B ≤ k) (hw : B ≤ w.heap.size) : Below B w w' :=
  ⟨h.os, h.tape, h.output, h.size, fun k hk => h.block k (Nat.lt_of_lt_of_le hk hw) (fun f => by have := hB k f; omega)⟩
theorem Frm.heap {F : Nat → Prop} {w w' : World} (hb : Frm F w w') {k : Nat} {o : Obj} (h : w.heap[k]? = some o) (hF : ¬ F k) : w'.heap[k]? = some o := by
  rw [hb.block k (Array.getElem?_eq_some_iff.1 h).1 hF]; exact h
theorem Frm.cell {F : Nat → Prop} {w w' : World} (hb : Frm F w w') {p : Addr} {v : Value} (h : w.cell? p = some v) (hF : ¬ F p.block) : w'.cell? p = some v := by
  rw [World.cell?_of_block (w := w) (hb.block p.block (World.block_lt_of_cell? w p h) hF)]; exact h

/-- A cell of a block that is known whole. -/
theorem cell_of_block {w : World} {b : Nat} {c : Array Value} {t : TypeId} {fr : Nat × Nat} (h : w.heap[b]? = some (.cells c t fr)) (i : Nat) (v : Value) (hi : c[i]? = some v) : w.cell? ⟨b, i, none⟩ = some v := by
  simp [World.cell?, h, hi]
theorem free_of_block {w : World} {b : Nat} {c : Array Value} {t : TypeId} (h : w.heap[b]? = some (.cells c t (0, 0))) (i : Nat) : w.frozen? ⟨b, i, none⟩ = false := by
  simp [World.frozen?, h]
theorem heap_setCell_block {w : World} {b : Nat} {c : Array Value} {t : TypeId} {fr : Nat × Nat} (h : w.heap[b]? = some (.cells c t fr)) (i : Nat) (v : Value) :
    (w.setCell ⟨b, i, none⟩ v).heap[b]? = some (.cells (c.setIfInBounds i v) t fr) := by
  simp only [World.setCell, Array.getElem?_modify, if_true, h, Option.map_some]; rfl

theorem heap_alloc_at (w : World) (o : Obj) (k : Nat) (hk : k = w.heap.size) : (w.alloc o).heap[k]? = some o := by subst hk; exact heap_alloc_new w o

/-- A slice that the call owns up to its capacity: its block is known whole. -/
theorem ownsRow_full {w : World} {base : Nat} {e : TypeId} {size : Nat} {g n : Nat} {xs : List Value} (h : w.ownsRow base e size (.slice (some ⟨g, 0, none⟩) n n) n xs) : w.heap[g]? = some (.cells xs.toArray e (0, 0)) := by
  rcases h.2 with ⟨hv, _⟩ | ⟨g', cap, cur, hv, _, hg, _, _, hs, ht⟩
  · cases hv
  · cases hv
    have : cur.toList = xs := by rw [← ht, List.take_of_length_le (by simp [hs])]
    rw [hg, ← this]

theorem madeCells_one (z : Value) (n : Nat) : (madeCells #[z] n).toList = List.replicate n z := by
  apply List.ext_getElem?
  intro i
  by_cases h : i < n
  · simp [madeCells, h, Nat.mod_one]
  · simp [madeCells, h]

/-- make([]T, n), T of one cell: the new block is known whole. -/
theorem wpList_make_one {P : Program} (w : World) {ops : Array Oper} {rest : List Oper} {o : Oper} {a : Act} {Q : Exit → Act → World → Prop}
    (hg : o.guard = none) (l c : Operand) (t : TypeId) (hop : o.op = Op.makeSlice t l c)
    (e : TypeId) (z : Value) (hz : z.cells = #[z]) (bytes : Nat) (h1 : P.underlying t = some (.slice e)) (h2 : (P.info? e).map (fun i => (i.zero, i.size, i.bytes)) = some (some z, 1, bytes))
    (kl kc : IntKind) (L C : Int) (n : Nat) (hl : a.eval l = .int kl L) (hc : a.eval c = .int kc C) (hL : L = (n : Int)) (hC : C = (n : Int)) (b2 : bytes * n ≤ 281474976710656) (b3 : n ≤ maxLen)
    (hK : ∀ w', w'.heap[w.heap.size]? = some (.cells (List.replicate n z).toArray e (0, 0)) → Below w.heap.size w w' → w.heap.size < w'.heap.size → wpList P ops Q rest (a.put o.dst (.slice (some ⟨w.heap.size, 0, none⟩) n n)) w') :
    wpList P ops Q (o :: rest) a w := by
  obtain ⟨i, hi, hz0, hz1, hz2⟩ := info_parts h2
  refine wpList_make_full w hg l c t hop 0 e i z 1 h1 hi hz0 hz1 kl kc L C n hl hc hL hC (by rw [hz2]; exact b2) b3 (Nat.zero_le _) ?_
  intro w' hown hgr
  have hh := ownsRow_full hown
  rw [Nat.mul_one, hz, madeCells_one] at hh
  refine hK w' hh ((Below.refl _ _).grown hgr (Nat.le_refl _) (fun k hk => by cases hk)) (Array.getElem?_eq_some_iff.1 hh).1

theorem bdrewN {B : Nat} {a w : World} (h : Below B a w) (n : Nat) : Below B a (w.drewN n) := ⟨h.os, h.tape, h.output, h.size, h.block⟩
theorem str_ne {x s : ByteArray} (h : x ≠ s) : (x.toList == s.toList) = false := by
  rw [beq_eq_false_iff_ne]
  intro e
  rw [ByteArray.toList_eq, ByteArray.toList_eq] at e
  apply h
  cases x; cases s
  simpa using e

theorem wpList_run {P : Program} {ops : Array Oper} {rest : List Oper} {o : Oper} {a : Act} {w : World} {Q : Exit → Act → World → Prop} (hgd : o.guard = none) {v : Value} {w' : World}
    (hr : (execOp a.eval o).run P w = .ok (.value v) w') (h : wpList P ops Q rest (a.put o.dst v) w') : wpList P ops Q (o :: rest) a w :=
  wpList_plain hgd fun K hK => by unfold Oper.wp; rw [hr]; exact hK _ _ h

theorem strCells (x : ByteArray) (n : Nat) : ((x.extract 0 n).data.map fun b => Value.int .u8 b.toNat).toList = (x.data.toList.take n).map (fun b => .int .u8 b.toNat) := by
  have : (x.extract 0 n).data = x.data.extract 0 n := by simp
  rw [this]; simp

theorem run_copy_str {P : Program} (w : World) (dT sT ty elem : TypeId) (g o dLen dCap : Nat) (x : ByteArray) (cur : Array Value) (t : TypeId)
    (hu : P.underlying dT = some (.slice elem)) (hs : (P.info? elem).map (·.size) = some 1) (hg : w.heap[g]? = some (.cells cur t (0, 0)))
    (cs : List Value) (hcs : cs = (x.data.toList.take dLen).map (fun b => .int .u8 b.toNat)) (hfit : o + cs.length ≤ cur.size) :
    (Builtin.copy_ #[dT, sT] ty #[.slice (some ⟨g, o, none⟩) dLen dCap, .string x]).run P w =
      .ok (goInt cs.length) (w.setRow g (cur.toList.take o ++ cs ++ cur.toList.drop (o + cs.length)).toArray) := by
  have h1 : ∀ v ∈ cs, v.oneCell' = true := by
    intro v hv; subst hcs; simp only [List.mem_map] at hv; obtain ⟨b, _, rfl⟩ := hv; rfl
  have hst := run_storeCells_at P g o t cs 0 cur w hg (by simpa using hfit) h1
  simp only [Nat.add_zero] at hst
  have hsz : x.size = x.data.toList.length := by simp
  have hmin : Nat.min x.size dLen = cs.length := by
    subst hcs; rw [hsz]; simp only [List.length_map, List.length_take]; exact Nat.min_comm _ _
  have htk : (x.data.toList.take cs.length).map (fun b => Value.int .u8 b.toNat) = cs := by
    rw [← hmin, hcs]; congr 1
    rw [hsz]; show List.take (min _ _) _ = _
    rw [Nat.min_def]; split
    · rw [List.take_of_length_le (Nat.le_refl _), List.take_of_length_le (by omega)]
    · rfl
  have htk' : List.take cs.length (List.map (fun b : UInt8 => Value.int IntKind.u8 (b.toNat : Int)) x.data.toList) = cs := by
    rw [← List.map_take]; exact htk
  cases hq : P.info? elem with
  | none => simp [hq] at hs
  | some i =>
    simp [Builtin.copy_, run_underlying hu, Builtin.lenOf, Builtin.firstCells, sizeOf, typeInfo, hq]
    rw [hmin, htk', hst]
    simp [Result.andThen]

theorem wpList_copy_str {P : Program} {w : World} {ops : Array Oper} {rest : List Oper} {o : Oper} {a : Act} {Q : Exit → Act → World → Prop} (hgd : o.guard = none) (d s : Operand) (dT sT : TypeId)
    (ho : o.op = .call { callee := .builtin .copy, args := #[d, s], argTypes := #[dT, sT] }) (elem : TypeId) (hu : P.underlying dT = some (.slice elem)) (hsz : (P.info? elem).map (·.size) = some 1)
    (g off dLen dCap : Nat) (x : ByteArray) (hd : a.eval d = .slice (some ⟨g, off, none⟩) dLen dCap) (hs : a.eval s = .string x)
    (cur : Array Value) (t : TypeId) (hg : w.heap[g]? = some (.cells cur t (0, 0))) (cs : List Value) (hcs : cs = (x.data.toList.take dLen).map (fun b => .int .u8 b.toNat))
    (hfit : off + cs.length ≤ cur.size) 
    (h : wpList P ops Q rest (a.put o.dst (goInt cs.length)) (w.setRow g (cur.toList.take off ++ cs ++ cur.toList.drop (off + cs.length)).toArray)) : wpList P ops Q (o :: rest) a w := by
  refine wpList_plain hgd fun K hK => ?_
  have hrun := run_copy_str (P := P) w dT sT o.type elem g off dLen dCap x cur t hu hsz hg cs hcs hfit
  unfold Oper.wp
  simp [execOp, ho, resolve, invoke, builtin, hd, hs, hrun, Result.andThen]
  rw [← List.append_assoc]
  exact hK _ _ h
end Go.Proofs.Ytnlaonppgebpoaa

namespace Go.Proofs.Ytnlaonppgebpoaa
open Go.RowKit

/-- The slice v reads as the numbers xs. -/
def IntsAt (w : World) (v : Value) (xs : List Int) : Prop :=
  ∃ a cap, v = .slice a xs.length cap ∧ ∀ j, j < xs.length → ∃ b off, a = some ⟨b, off, none⟩ ∧ w.cell? ⟨b, off + j, none⟩ = some (.int .i64 (xs.getD j 0))
def BoolsAt (w : World) (v : Value) (xs : List Bool) : Prop :=
  ∃ a cap, v = .slice a xs.length cap ∧ ∀ j, j < xs.length → ∃ b off, a = some ⟨b, off, none⟩ ∧ w.cell? ⟨b, off + j, none⟩ = some (.bool (xs.getD j false))
/-- An edge: whence, by which agent, where. -/
abbrev Ed := Int × Int × Int
def EdgesAt (w : World) (v : Value) (l : List Ed) : Prop :=
  ∃ a cap, v = .slice a l.length cap ∧ ∀ j, j < l.length → ∃ b off, a = some ⟨b, off, none⟩ ∧ w.cell? ⟨b, off + j * 3, none⟩ = some (.int .i64 (l.getD j (0, 0, 0)).1) ∧
    w.cell? ⟨b, off + j * 3 + 1, none⟩ = some (.int .i64 (l.getD j (0, 0, 0)).2.1) ∧ w.cell? ⟨b, off + j * 3 + 2, none⟩ = some (.int .i64 (l.getD j (0, 0, 0)).2.2)

/-- A graph as the program has it. -/
structure Gr where
  S : List Int
  A : List Int
  T : List Int
structure GraphAt (w : World) (v : Value) (g : Gr) : Prop where
  ex : ∃ s a t, v = .agg #[s, a, t] ∧ IntsAt w s g.S ∧ IntsAt w a g.A ∧ IntsAt w t g.T
  sS : g.S.length ≤ 1000000
  sA : g.A.length ≤ 1000000
  sT : g.T.length ≤ 1000000

theorem IntsAt.below {w w' : World} {v : Value} {l : List Int} (h : IntsAt w v l) (hb : Below w.heap.size w w') : IntsAt w' v l :=
  let ⟨a, cap, h1, h2⟩ := h
  ⟨a, cap, h1, fun j hj => let ⟨b, off, e, hc⟩ := h2 j hj; ⟨b, off, e, bkeep hb hc⟩⟩
theorem BoolsAt.below {w w' : World} {v : Value} {l : List Bool} (h : BoolsAt w v l) (hb : Below w.heap.size w w') : BoolsAt w' v l :=
  let ⟨a, cap, h1, h2⟩ := h
  ⟨a, cap, h1, fun j hj => let ⟨b, off, e, hc⟩ := h2 j hj; ⟨b, off, e, bkeep hb hc⟩⟩
theorem EdgesAt.below {w w' : World} {v : Value} {l : List Ed} (h : EdgesAt w v l) (hb : Below w.heap.size w w') : EdgesAt w' v l :=
  let ⟨a, cap, h1, h2⟩ := h
  ⟨a, cap, h1, fun j hj => let ⟨b, off, e, hc, hd, he⟩ := h2 j hj; ⟨b, off, e, bkeep hb hc, bkeep hb hd, bkeep hb he⟩⟩
theorem GraphAt.below {w w' : World} {v : Value} {g : Gr} (h : GraphAt w v g) (hb : Below w.heap.size w w') : GraphAt w' v g :=
  let ⟨⟨s, a, t, e, h1, h2, h3⟩, h4, h5, h6⟩ := h
  ⟨⟨s, a, t, e, h1.below hb, h2.below hb, h3.below hb⟩, h4, h5, h6⟩
theorem balloc (w : World) (o : Obj) : Below w.heap.size w (w.alloc o) := (Below.refl _ _).alloc (Nat.le_refl _) o

theorem intsAt_nil (w : World) : IntsAt w (.slice none 0 0) [] := ⟨none, 0, rfl, fun j hj => by simp at hj⟩
theorem boolsAt_nil (w : World) : BoolsAt w (.slice none 0 0) [] := ⟨none, 0, rfl, fun j hj => by simp at hj⟩
theorem edgesAt_nil (w : World) : EdgesAt w (.slice none 0 0) [] := ⟨none, 0, rfl, fun j hj => by simp at hj⟩
theorem graphAt_nil (w : World) : GraphAt w (.agg #[.slice none 0 0, .slice none 0 0, .slice none 0 0]) ⟨[], [], []⟩ :=
  ⟨⟨_, _, _, rfl, intsAt_nil w, intsAt_nil w, intsAt_nil w⟩, by simp, by simp, by simp⟩

/-- Numbers as a block's cells. -/
def ints (xs : List Int) : Array Value := (xs.map (fun x : Int => Value.int .i64 x)).toArray
theorem ints_get (xs : List Int) (p : Nat) (hp : p < xs.length) : (ints xs)[p]? = some (.int .i64 (xs.getD p 0)) := by
  simp [ints, List.getD, hp]
theorem ints_size (xs : List Int) : (ints xs).size = xs.length := by simp [ints]
theorem ints_set (xs : List Int) (p : Nat) (v : Int) : (ints xs).setIfInBounds p (.int .i64 v) = ints (xs.set p v) := by
  unfold ints; simp [List.map_set]
theorem ints_replicate (n : Nat) : ints (List.replicate n 0) = (List.replicate n (Value.int .i64 0)).toArray := by
  unfold ints; rw [List.map_replicate]
theorem intsAt_block {w : World} {b n : Nat} {xs : List Int} (h : w.heap[b]? = some (.cells (ints xs) 3 (0, 0))) (hn : n = xs.length) (cap : Nat) : IntsAt w (.slice (some ⟨b, 0, none⟩) n cap) xs := by
  subst hn
  exact ⟨_, cap, rfl, fun j hj => ⟨b, 0, rfl, cell_of_block h _ _ (by rw [Nat.zero_add]; exact ints_get xs j hj)⟩⟩
theorem getD_set_same {α : Type} (l : List α) (p : Nat) (v z : α) (hp : p < l.length) : (l.set p v).getD p z = v := by simp [List.getD, hp]
theorem getD_set_other {α : Type} (l : List α) (p q : Nat) (v z : α) (h : p ≠ q) : (l.set p v).getD q z = l.getD q z := by simp [List.getD, h]

/-- Is a graph right? -/
structure Rt (g : Gr) : Prop where
  ne : 0 < g.S.length
  first : g.S.getD 0 0 = 0
  last : g.S.getD (g.S.length - 1) 0 = g.T.length
  lens : g.A.length = g.T.length
  mono : ∀ i, i + 1 < g.S.length → g.S.getD i 0 ≤ g.S.getD (i + 1) 0
  tos : ∀ k, k < g.T.length → 0 ≤ g.T.getD k 0 ∧ g.T.getD k 0 + 1 < g.S.length ∧ 0 ≤ g.A.getD k 0
def rightB (g : Gr) : Bool :=
  decide (0 < g.S.length) && decide (g.S.getD 0 0 = 0) && decide (g.S.getD (g.S.length - 1) 0 = g.T.length) && decide (g.A.length = g.T.length) &&
    (List.range (g.S.length - 1)).all (fun i => decide (g.S.getD i 0 ≤ g.S.getD (i + 1) 0)) &&
    (List.range g.T.length).all (fun k => decide (0 ≤ g.T.getD k 0) && decide (g.T.getD k 0 + 1 < g.S.length) && decide (0 ≤ g.A.getD k 0))
theorem rightB_iff (g : Gr) : rightB g = true ↔ Rt g := by
  simp only [rightB, Bool.and_eq_true, decide_eq_true_eq, List.all_eq_true, List.mem_range]
  constructor
  · rintro ⟨⟨⟨⟨⟨h1, h2⟩, h3⟩, h4⟩, h5⟩, h6⟩
    exact ⟨h1, h2, h3, h4, fun i hi => h5 i (by omega), fun k hk => let ⟨⟨a, b⟩, c⟩ := h6 k hk; ⟨a, b, c⟩⟩
  · rintro ⟨h1, h2, h3, h4, h5, h6⟩
    exact ⟨⟨⟨⟨⟨h1, h2⟩, h3⟩, h4⟩, fun i hi => h5 i (by omega)⟩, fun k hk => ⟨⟨(h6 k hk).1, (h6 k hk).2.1⟩, (h6 k hk).2.2⟩⟩
theorem rightB_false {g : Gr} (h : ¬ Rt g) : rightB g = false := by
  cases e : rightB g
  · rfl
  · exact (h ((rightB_iff g).1 e)).elim
end Go.Proofs.Ytnlaonppgebpoaa

namespace Go.Proofs.Ytnlaonppgebpoaa

def st (g : Gr) (i : Nat) : Nat := (g.S.getD i 0).toNat
def edge (g : Gr) (i k : Nat) : Ed := ((i : Int), g.A.getD k 0, g.T.getD k 0)
/-- node i's first m edges -/
def edsN (g : Gr) (i m : Nat) : List Ed := (List.range' (st g i) m).map (edge g i)
def eds (g : Gr) (i : Nat) : List Ed := edsN g i (st g (i + 1) - st g i)
/-- the edges of m nodes, from a on -/
def span (g : Gr) (a m : Nat) : List Ed := (List.range' a m).flatMap (eds g)

theorem edsN_succ (g : Gr) (i m : Nat) : edsN g i (m + 1) = edsN g i m ++ [edge g i (st g i + m)] := by
  simp [edsN, List.range'_concat]
theorem edsN_len (g : Gr) (i m : Nat) : (edsN g i m).length = m := by simp [edsN]
theorem span_succ (g : Gr) (a m : Nat) : span g a (m + 1) = span g a m ++ eds g (a + m) := by
  simp [span, List.range'_concat]

theorem Rt.mono' {g : Gr} (h : Rt g) {i : Nat} : ∀ j, i ≤ j → j < g.S.length → g.S.getD i 0 ≤ g.S.getD j 0
  | 0, hij, _ => by obtain rfl : i = 0 := by omega
                    exact Int.le_refl _
  | j + 1, hij, hj => by
    by_cases e : i = j + 1
    · rw [e]; exact Int.le_refl _
    · exact Int.le_trans (h.mono' j (by omega) (by omega)) (h.mono j hj)
theorem Rt.st {g : Gr} (h : Rt g) {i : Nat} (hi : i < g.S.length) : g.S.getD i 0 = (st g i : Int) := by
  have := h.mono' (i := 0) i (Nat.zero_le _) hi
  rw [h.first] at this
  unfold Proofs.Ytnlaonppgebpoaa.st; omega
theorem Rt.stLe {g : Gr} (h : Rt g) {i j : Nat} (hij : i ≤ j) (hj : j < g.S.length) : Proofs.Ytnlaonppgebpoaa.st g i ≤ Proofs.Ytnlaonppgebpoaa.st g j := by
  have := h.mono' j hij hj
  rw [h.st hj, h.st (by omega)] at this; omega
theorem Rt.stTop {g : Gr} (h : Rt g) {i : Nat} (hi : i < g.S.length) : Proofs.Ytnlaonppgebpoaa.st g i ≤ g.T.length := by
  have h1 := h.mono' (i := i) (g.S.length - 1) (by omega) (by omega)
  rw [h.last, h.st hi] at h1; omega
theorem span_len {g : Gr} (h : Rt g) (a : Nat) : ∀ m, a + m < g.S.length → (span g a m).length = st g (a + m) - st g a
  | 0, _ => by simp [span]
  | m + 1, hm => by
    rw [span_succ, List.length_append, span_len h a m (by omega), eds, edsN_len]
    have h1 := h.stLe (i := a) (j := a + m) (by omega) (by omega)
    have h2 := h.stLe (i := a + m) (j := a + m + 1) (by omega) (by omega)
    have e : a + (m + 1) = a + m + 1 := rfl
    rw [e]; omega
end Go.Proofs.Ytnlaonppgebpoaa

namespace Go.Proofs.Ytnlaonppgebpoaa
open Go.RowKit

/-- lists over numbers 0 .. m-1 -/
def tab {α : Type} (m : Nat) (f : Nat → α) : List α := (List.range m).map f
theorem tab_len {α : Type} (m : Nat) (f : Nat → α) : (tab m f).length = m := by simp [tab]
theorem tab_get {α : Type} (m : Nat) (f : Nat → α) (z : α) (j : Nat) (hj : j < m) : (tab m f).getD j z = f j := by simp [tab, List.getD, hj]
theorem tab_set {α : Type} (m : Nat) (f g : Nat → α) (j : Nat) (v : α) (hv : j < m → g j = v) (hg : ∀ x, x < m → x ≠ j → g x = f x) : (tab m f).set j v = tab m g := by
  apply List.ext_getElem?
  intro i
  simp only [tab, List.getElem?_set, List.getElem?_map, List.length_map, List.length_range]
  by_cases hi : i < m
  · by_cases hij : j = i
    · subst hij; simp [hi, hv hi]
    · simp [hij, hi, hg i hi (fun e => hij e.symm)]
  · by_cases hij : j = i
    · subst hij; simp [hi]
    · simp [hij, hi]
theorem tab_congr {α : Type} (m : Nat) (f g : Nat → α) (h : ∀ j, j < m → f j = g j) : tab m f = tab m g := by
  unfold tab; apply List.map_congr_left; intro a ha; exact h a (List.mem_range.1 ha)

/-- can an edge be, of n nodes? -/
def okE (n : Int) (e : Ed) : Bool := decide (0 ≤ e.1 ∧ e.1 < n ∧ 0 ≤ e.2.2 ∧ e.2.2 < n ∧ 0 ≤ e.2.1)
def outs (l : List Ed) (i : Nat) : List Ed := l.filter (fun e => decide (e.1 = (i : Int)))
def cnt (l : List Ed) (i : Nat) : Nat := (outs l i).length
def cntLt (l : List Ed) (i : Nat) : Nat := (l.filter (fun e => decide (e.1 < (i : Int)))).length

theorem cntLt_succ (l : List Ed) (i : Nat) : cntLt l (i + 1) = cntLt l i + cnt l i := by
  unfold cntLt cnt outs
  induction l with
  | nil => rfl
  | cons e l ih =>
    simp only [List.filter_cons]
    by_cases h1 : e.1 < (i : Int)
    · have h2 : e.1 < ((i + 1 : Nat) : Int) := by omega
      have h3 : ¬ e.1 = (i : Int) := by omega
      simp only [h1, h2, h3, decide_true, decide_false, if_true, List.length_cons, Bool.false_eq_true, if_false, ih]; omega
    · by_cases h3 : e.1 = (i : Int)
      · have h2 : e.1 < ((i + 1 : Nat) : Int) := by omega
        simp only [h3, decide_true, if_true, List.length_cons]
        have h4 : ¬ ((i : Int) < (i : Int)) := by omega
        have h5 : ((i : Int) < ((i + 1 : Nat) : Int)) := by omega
        simp only [h4, h5, decide_true, decide_false, if_true, Bool.false_eq_true, if_false, List.length_cons, ih]; omega
      · have h2 : ¬ e.1 < ((i + 1 : Nat) : Int) := by omega
        simp only [h1, h2, h3, decide_false, Bool.false_eq_true, if_false, ih]
theorem cntLt_zero {l : List Ed} (h : ∀ e ∈ l, 0 ≤ e.1) : cntLt l 0 = 0 := by
  unfold cntLt
  rw [List.length_eq_zero_iff, List.filter_eq_nil_iff]
  intro e he; have := h e he; simp; omega
theorem cntLt_all {l : List Ed} {n : Nat} (h : ∀ e ∈ l, e.1 < (n : Int)) : cntLt l n = l.length := by
  unfold cntLt
  rw [List.filter_eq_self.2]
  intro e he; simpa using h e he
theorem cntLt_mono (l : List Ed) {i j : Nat} (h : i ≤ j) : cntLt l i ≤ cntLt l j := by
  induction j with
  | zero => obtain rfl : i = 0 := by omega
            exact Nat.le_refl _
  | succ j ih =>
    by_cases hij : i = j + 1
    · rw [hij]; exact Nat.le_refl _
    · rw [cntLt_succ]; have := ih (by omega); omega
theorem cnt_take_succ (l : List Ed) (k i : Nat) (hk : k < l.length) : cnt (l.take (k + 1)) i = cnt (l.take k) i + if (l.getD k (0, 0, 0)).1 = (i : Int) then 1 else 0 := by
  unfold cnt outs
  rw [List.take_add_one, List.getElem?_eq_getElem hk, Option.toList_some, List.filter_append, List.length_append]
  have : l.getD k (0, 0, 0) = l[k] := by simp [List.getD, hk]
  rw [this]
  by_cases h : l[k].1 = (i : Int) <;> simp [h]
theorem cnt_take_le (l : List Ed) (k i : Nat) : cnt (l.take k) i ≤ cnt l i := by
  unfold cnt outs
  exact (List.Sublist.filter _ (List.take_sublist k l)).length_le
theorem outs_at (l : List Ed) (k f : Nat) (hk : k < l.length) (hf : (l.getD k (0, 0, 0)).1 = (f : Int)) : cnt (l.take k) f < cnt l f ∧ (outs l f).getD (cnt (l.take k) f) (0, 0, 0) = l.getD k (0, 0, 0) := by
  have e : l.getD k (0, 0, 0) = l[k] := by simp [List.getD, hk]
  rw [e] at hf ⊢
  have hsplit : outs l f = outs (l.take k) f ++ l[k] :: outs (l.drop (k + 1)) f := by
    unfold outs
    have h1 : l = l.take k ++ l[k] :: l.drop (k + 1) := by
      rw [List.getElem_cons_drop, List.take_append_drop]
    conv => lhs; rw [h1]
    rw [List.filter_append, List.filter_cons]
    simp [hf]
  constructor
  · unfold cnt; rw [hsplit]; simp
  · rw [hsplit]; unfold cnt; simp [List.getD]

/-- the graph of right edges: those of node 0, of node 1, .. -/
def flat (n : Nat) (l : List Ed) (h : Ed → Int) : List Int := (List.range n).flatMap (fun i => (outs l i).map h)
def csr (n : Nat) (l : List Ed) : Gr := ⟨tab (n + 1) (fun i => (cntLt l i : Int)), flat n l (fun e => e.2.1), flat n l (fun e => e.2.2)⟩
def buildOk (n : Int) (l : List Ed) : Bool := decide (0 ≤ n ∧ n ≤ 100000) && l.all (okE n)
def buildG (n : Int) (l : List Ed) : Gr := if buildOk n l = true then csr n.toNat l else ⟨[], [], []⟩
def buildE (n : Int) (l : List Ed) : Int := if buildOk n l = true then 0 else 1

theorem flat_succ (n : Nat) (l : List Ed) (h : Ed → Int) : flat (n + 1) l h = flat n l h ++ (outs l n).map h := by
  simp [flat, List.range_succ]
theorem flat_len {l : List Ed} (h0 : ∀ e ∈ l, 0 ≤ e.1) (h : Ed → Int) : ∀ n, (flat n l h).length = cntLt l n
  | 0 => by rw [cntLt_zero h0]; simp [flat]
  | n + 1 => by rw [flat_succ, List.length_append, flat_len h0 h n, cntLt_succ, List.length_map]; rfl
theorem flat_get {l : List Ed} (h0 : ∀ e ∈ l, 0 ≤ e.1) (h : Ed → Int) : ∀ n i r, i < n → r < cnt l i → (flat n l h).getD (cntLt l i + r) 0 = h ((outs l i).getD r (0, 0, 0))
  | 0, i, r, hi, _ => by omega
  | n + 1, i, r, hi, hr => by
    rw [flat_succ]
    have hl := flat_len h0 h n
    by_cases hin : i = n
    · subst hin
      have hr' : r < (outs l i).length := hr
      simp only [List.getD]
      rw [List.getElem?_append_right (by omega), hl]
      simp [hr']
    · have hlt : cntLt l i + r < cntLt l n := by
        have := cntLt_mono l (show i + 1 ≤ n by omega)
        rw [cntLt_succ] at this; omega
      have := flat_get h0 h n i r (by omega) hr
      simp only [List.getD] at this ⊢
      rw [List.getElem?_append_left (by omega)]; exact this
theorem bucket {l : List Ed} (h0 : ∀ e ∈ l, 0 ≤ e.1) : ∀ n p, p < cntLt l n → ∃ i r, i < n ∧ r < cnt l i ∧ p = cntLt l i + r
  | 0, p, hp => by rw [cntLt_zero h0] at hp; omega
  | n + 1, p, hp => by
    by_cases h : p < cntLt l n
    · obtain ⟨i, r, h1, h2, h3⟩ := bucket h0 n p h
      exact ⟨i, r, by omega, h2, h3⟩
    · rw [cntLt_succ] at hp
      exact ⟨n, p - cntLt l n, by omega, by omega, by omega⟩
theorem bucket_eq {l : List Ed} {i j r s : Nat} (hr : r < cnt l i) (hs : s < cnt l j) (h : cntLt l i + r = cntLt l j + s) : i = j ∧ r = s := by
  have hij : i = j := by
    apply Classical.byContradiction; intro hne
    rcases Nat.lt_or_gt_of_ne hne with hlt | hgt
    · have := cntLt_mono l (show i + 1 ≤ j from hlt); rw [cntLt_succ] at this; omega
    · have := cntLt_mono l (show j + 1 ≤ i from hgt); rw [cntLt_succ] at this; omega
  subst hij; exact ⟨rfl, by omega⟩

/-- what of the edges' row is there when k edges are copied -/
def Copied (n : Nat) (l : List Ed) (h : Ed → Int) (k : Nat) (A : List Int) : Prop :=
  A.length = l.length ∧ ∀ i, i < n → ∀ r, r < cnt (l.take k) i → A.getD (cntLt l i + r) 0 = h ((outs l i).getD r (0, 0, 0))
theorem copied_end {n : Nat} {l : List Ed} {h : Ed → Int} {A : List Int} (h0 : ∀ e ∈ l, 0 ≤ e.1) (hn : ∀ e ∈ l, e.1 < (n : Int)) (hc : Copied n l h l.length A) : A = flat n l h := by
  have hl := flat_len h0 h n
  rw [cntLt_all hn] at hl
  apply List.ext_getElem?
  intro p
  by_cases hp : p < l.length
  · obtain ⟨i, r, h1, h2, h3⟩ := bucket h0 n p (by rw [cntLt_all hn]; exact hp)
    have e1 := hc.2 i h1 r (by rw [List.take_length]; exact h2)
    have e2 := flat_get h0 h n i r h1 h2
    rw [← h3] at e1 e2
    rw [← e2] at e1
    have hA : p < A.length := by rw [hc.1]; exact hp
    have hF : p < (flat n l h).length := by rw [hl]; exact hp
    rw [List.getElem?_eq_getElem hA, List.getElem?_eq_getElem hF]
    simpa [List.getD, hA, hF] using e1
  · rw [List.getElem?_eq_none (by rw [hc.1]; omega), List.getElem?_eq_none (by omega)]
theorem copied_step {n : Nat} {l : List Ed} {h : Ed → Int} {A : List Int} {k f : Nat} (hc : Copied n l h k A) (hn : ∀ e ∈ l, e.1 < (n : Int)) (hk : k < l.length) (hf : (l.getD k (0, 0, 0)).1 = (f : Int)) (hfn : f < n) :
    cntLt l f + cnt (l.take k) f < l.length ∧ Copied n l h (k + 1) (A.set (cntLt l f + cnt (l.take k) f) (h (l.getD k (0, 0, 0)))) := by
  obtain ⟨q1, q2⟩ := outs_at l k f hk hf
  have hlt : cntLt l f + cnt (l.take k) f < l.length := by
    have h1 := cntLt_mono l (show f + 1 ≤ n from hfn)
    rw [cntLt_succ, cntLt_all hn] at h1; omega
  refine ⟨hlt, by rw [List.length_set]; exact hc.1, ?_⟩
  intro i hi r hr
  rw [cnt_take_succ l k i hk, hf] at hr
  by_cases hp : cntLt l f + cnt (l.take k) f = cntLt l i + r
  · rw [← hp, getD_set_same _ _ _ _ (by rw [hc.1]; exact hlt)]
    have hr' : r < cnt l i := by
      have := cnt_take_le l (k + 1) i
      rw [cnt_take_succ l k i hk, hf] at this; omega
    obtain ⟨rfl, rfl⟩ := bucket_eq q1 hr' hp
    rw [q2]
  · rw [getD_set_other _ _ _ _ _ hp]
    apply hc.2 i hi r
    by_cases hif : (f : Int) = (i : Int)
    · have : f = i := by omega
      subst this
      simp at hr
      have : r ≠ cnt (l.take k) f := fun e => hp (by rw [e])
      omega
    · rw [if_neg hif] at hr; omega

/-- the row of starts, on its way -/
def st1 (n : Nat) (l : List Ed) : List Int := tab (n + 1) (fun j => if j = 0 then 0 else (cnt l (j - 1) : Int))
theorem st1_nil (n : Nat) : st1 n [] = List.replicate (n + 1) 0 := by
  apply List.ext_getElem?
  intro i
  simp only [st1, tab, List.getElem?_map, List.getElem?_replicate]
  by_cases hi : i < n + 1 <;> simp [hi, cnt, outs]
theorem st1_step {n : Nat} {l : List Ed} {k f : Nat} (hk : k < l.length) (hf : (l.getD k (0, 0, 0)).1 = (f : Int)) (hfn : f < n) :
    (st1 n (l.take k)).getD (f + 1) 0 = (cnt (l.take k) f : Int) ∧ (st1 n (l.take k)).set (f + 1) ((cnt (l.take k) f : Int) + 1) = st1 n (l.take (k + 1)) := by
  constructor
  · rw [st1, tab_get _ _ _ _ (by omega)]; simp
  · apply tab_set
    · intro _
      rw [if_neg (by omega), cnt_take_succ l k _ hk, hf]; simp
    · intro x _ hne
      by_cases hx : x = 0
      · simp [hx]
      · rw [if_neg hx, if_neg hx, cnt_take_succ l k _ hk, hf, if_neg (by omega)]; simp
def st2 (n : Nat) (l : List Ed) (i : Nat) : List Int := tab (n + 1) (fun j => if j ≤ i then (cntLt l j : Int) else (cnt l (j - 1) : Int))
theorem st2_zero (n : Nat) {l : List Ed} (h0 : ∀ e ∈ l, 0 ≤ e.1) : st1 n l = st2 n l 0 := by
  apply tab_congr
  intro j _
  by_cases hj : j = 0
  · subst hj; simp [cntLt_zero h0]
  · rw [if_neg hj, if_neg (by omega)]
theorem st2_end (n : Nat) (l : List Ed) : st2 n l n = (csr n l).S := by
  apply tab_congr
  intro j hj
  rw [if_pos (by omega)]
theorem st2_step {n : Nat} {l : List Ed} {i : Nat} (hi : i < n) :
    (st2 n l i).getD (i + 1) 0 = (cnt l i : Int) ∧ (st2 n l i).getD i 0 = (cntLt l i : Int) ∧ (st2 n l i).set (i + 1) ((cnt l i : Int) + (cntLt l i : Int)) = st2 n l (i + 1) := by
  refine ⟨?_, ?_, ?_⟩
  · rw [st2, tab_get _ _ _ _ (by omega), if_neg (by omega)]; simp
  · rw [st2, tab_get _ _ _ _ (by omega), if_pos (by omega)]
  · apply tab_set
    · intro _; rw [if_pos (by omega), cntLt_succ]; omega
    · intro x _ hne
      by_cases hx : x ≤ i
      · rw [if_pos hx, if_pos (by omega)]
      · rw [if_neg hx, if_neg (by omega)]
def nx (n : Nat) (l : List Ed) (k : Nat) : List Int := tab (n + 1) (fun j => (cntLt l j : Int) + (cnt (l.take k) j : Int))
theorem nx_zero (n : Nat) (l : List Ed) : nx n l 0 = (csr n l).S := by
  apply tab_congr; intro j _; simp [cnt, outs]
theorem nx_step {n : Nat} {l : List Ed} {k f : Nat} (hk : k < l.length) (hf : (l.getD k (0, 0, 0)).1 = (f : Int)) (hfn : f < n) :
    (nx n l k).getD f 0 = ((cntLt l f + cnt (l.take k) f : Nat) : Int) ∧ (nx n l k).set f (((cntLt l f + cnt (l.take k) f : Nat) : Int) + 1) = nx n l (k + 1) := by
  constructor
  · rw [nx, tab_get _ _ _ _ (by omega)]; simp
  · apply tab_set
    · intro _; rw [cnt_take_succ l k _ hk, hf]; simp; omega
    · intro x _ hne
      rw [cnt_take_succ l k _ hk, hf, if_neg (by omega)]; simp
theorem csr_S_len (n : Nat) (l : List Ed) : (csr n l).S.length = n + 1 := tab_len _ _
end Go.Proofs.Ytnlaonppgebpoaa

namespace Go.Proofs.Ytnlaonppgebpoaa

/-- all edges of a right graph, else none -/
def allL (g : Gr) : List Ed := if rightB g = true then span g 0 (g.S.length - 1) else []
theorem allL_right {g : Gr} (h : Rt g) : allL g = span g 0 (g.S.length - 1) := by unfold allL; rw [if_pos ((rightB_iff g).2 h)]
theorem allL_not {g : Gr} (h : rightB g = false) : allL g = [] := by unfold allL; rw [h]; rfl

theorem eds_fst {g : Gr} {i : Nat} {e : Ed} (h : e ∈ eds g i) : e.1 = (i : Int) := by
  simp only [eds, edsN, List.mem_map] at h
  obtain ⟨k, -, rfl⟩ := h
  rfl
theorem outs_flat (f : Nat → List Ed) (hf : ∀ j e, e ∈ f j → e.1 = (j : Int)) (i : Nat) : ∀ n, outs ((List.range n).flatMap f) i = if i < n then f i else []
  | 0 => rfl
  | n + 1 => by
    have ih := outs_flat f hf i n
    unfold outs at ih ⊢
    rw [List.range_succ, List.flatMap_append, List.filter_append, ih]
    simp only [List.flatMap_cons, List.flatMap_nil, List.append_nil]
    by_cases h : i = n
    · subst h
      rw [if_neg (by omega), if_pos (by omega), List.nil_append, List.filter_eq_self]
      intro e he
      simp [hf i e he]
    · have : (f n).filter (fun e => decide (e.1 = (i : Int))) = [] := by
        rw [List.filter_eq_nil_iff]
        intro e he
        rw [hf n e he]
        simp; omega
      rw [this, List.append_nil]
      by_cases hlt : i < n
      · rw [if_pos hlt, if_pos (by omega)]
      · rw [if_neg hlt, if_neg (by omega)]
theorem cntLt_flat (f : Nat → List Ed) (hf : ∀ j e, e ∈ f j → e.1 = (j : Int)) (n i : Nat) (hi : i < n) : cntLt ((List.range n).flatMap f) (i + 1) = cntLt ((List.range n).flatMap f) i + (f i).length := by
  rw [cntLt_succ, cnt, outs_flat f hf i n, if_pos hi]
theorem flat_mem_nonneg (f : Nat → List Ed) (hf : ∀ j e, e ∈ f j → e.1 = (j : Int)) (n : Nat) : ∀ e ∈ (List.range n).flatMap f, 0 ≤ e.1 := by
  intro e he
  obtain ⟨j, -, hj⟩ := List.mem_flatMap.1 he
  rw [hf j e hj]; omega

theorem span_flat (g : Gr) (n : Nat) : span g 0 n = (List.range n).flatMap (eds g) := by
  unfold span; rw [List.range_eq_range']

theorem cntLt_all_st {g : Gr} (h : Rt g) : ∀ i, i < g.S.length → cntLt (allL g) i = st g i
  | 0, _ => by
    rw [allL_right h, span_flat, cntLt_zero (flat_mem_nonneg _ (fun j e => eds_fst) _)]
    unfold st; rw [h.first]; rfl
  | i + 1, hi => by
    have ih := cntLt_all_st h i (by omega)
    have h1 := h.stLe (i := i) (j := i + 1) (by omega) hi
    rw [allL_right h, span_flat] at ih ⊢
    rw [cntLt_flat _ (fun j e => eds_fst) _ _ (by omega), ih, eds, edsN_len]; omega
theorem outs_all {g : Gr} (h : Rt g) {i : Nat} (hi : i + 1 < g.S.length) : outs (allL g) i = eds g i := by
  rw [allL_right h, span_flat, outs_flat _ (fun j e => eds_fst), if_pos (by omega)]

theorem flat_all {g : Gr} (h : Rt g) (X : List Int) (p : Ed → Int) (hX : X.length = g.T.length) (hp : ∀ i k, p (edge g i k) = X.getD k 0) : flat (g.S.length - 1) (allL g) p = X := by
  have key : ∀ n, n < g.S.length → flat n (allL g) p = X.take (st g n) := by
    intro n
    induction n with
    | zero =>
      intro _
      have : st g 0 = 0 := by unfold st; rw [h.first]; rfl
      rw [this]; simp [flat]
    | succ n ih =>
      intro hn
      rw [flat_succ, ih (by omega), outs_all h hn]
      have h1 := h.stLe (i := n) (j := n + 1) (by omega) hn
      have h2 := h.stTop (i := n + 1) hn
      apply List.ext_getElem?
      intro k
      simp only [eds, edsN, List.map_map]
      by_cases hk : k < st g n
      · rw [List.getElem?_append_left (by simp; omega), List.getElem?_take, List.getElem?_take, if_pos hk, if_pos (by omega)]
      · rw [List.getElem?_append_right (by simp; omega)]
        have hl : (X.take (st g n)).length = st g n := by simp; omega
        rw [hl, List.getElem?_map, List.getElem?_take]
        by_cases hk2 : k < st g (n + 1)
        · rw [if_pos hk2, List.getElem?_range' (by omega)]
          have e : st g n + 1 * (k - st g n) = k := by omega
          rw [e]
          simp only [Option.map_some, Function.comp_apply, hp]
          simp [List.getD, List.getElem?_eq_getElem (show k < X.length by omega)]
        · rw [if_neg hk2, List.getElem?_eq_none (by simp; omega)]; rfl
  rw [key _ (by have := h.ne; omega)]
  have : st g (g.S.length - 1) = X.length := by
    have := h.last
    rw [h.st (by have := h.ne; omega)] at this; omega
  rw [this, List.take_length]

theorem csr_all {g : Gr} (h : Rt g) : csr (g.S.length - 1) (allL g) = g := by
  have hne := h.ne
  have h1 : tab (g.S.length - 1 + 1) (fun i => (cntLt (allL g) i : Int)) = g.S := by
    apply List.ext_getElem?
    intro i
    simp only [tab, List.getElem?_map]
    by_cases hi : i < g.S.length
    · have := h.st hi
      rw [List.getElem?_range (by omega), Option.map_some, cntLt_all_st h i hi, ← this]
      simp [List.getD, hi]
    · rw [List.getElem?_eq_none (by simp; omega), List.getElem?_eq_none (by omega)]; rfl
  unfold csr
  rw [h1, flat_all h g.A _ h.lens (fun i k => rfl), flat_all h g.T _ rfl (fun i k => rfl)]

/-- of a built graph -/
theorem buildOk_mem {n : Nat} {l : List Ed} (h : buildOk n l = true) : n ≤ 100000 ∧ ∀ e ∈ l, 0 ≤ e.1 ∧ e.1 < (n : Int) ∧ 0 ≤ e.2.2 ∧ e.2.2 < (n : Int) ∧ 0 ≤ e.2.1 := by
  simp only [buildOk, Bool.and_eq_true, List.all_eq_true, okE, decide_eq_true_eq] at h
  exact ⟨by omega, h.2⟩
theorem buildOk_intro {n : Nat} {l : List Ed} (hn : n ≤ 100000) (h : ∀ e ∈ l, 0 ≤ e.1 ∧ e.1 < (n : Int) ∧ 0 ≤ e.2.2 ∧ e.2.2 < (n : Int) ∧ 0 ≤ e.2.1) : buildOk n l = true := by
  simp only [buildOk, Bool.and_eq_true, List.all_eq_true, okE, decide_eq_true_eq]
  exact ⟨by omega, h⟩
theorem buildG_ok {n : Nat} {l : List Ed} (h : buildOk n l = true) : buildG n l = csr n l := by simp [buildG, h]
theorem buildG_bad {n : Int} {l : List Ed} (h : buildOk n l = false) : buildG n l = ⟨[], [], []⟩ := by simp [buildG, h]

theorem csr_lenT {n : Nat} {l : List Ed} (h : buildOk n l = true) : (csr n l).T.length = l.length ∧ (csr n l).A.length = l.length := by
  obtain ⟨-, hm⟩ := buildOk_mem h
  have h0 : ∀ e ∈ l, 0 ≤ e.1 := fun e he => (hm e he).1
  have h1 : ∀ e ∈ l, e.1 < (n : Int) := fun e he => (hm e he).2.1
  exact ⟨by show (flat n l _).length = _; rw [flat_len h0, cntLt_all h1], by show (flat n l _).length = _; rw [flat_len h0, cntLt_all h1]⟩
theorem csr_S {n : Nat} (l : List Ed) {i : Nat} (hi : i ≤ n) : (csr n l).S.getD i 0 = (cntLt l i : Int) := tab_get _ _ _ _ (by omega)
theorem csr_st {n : Nat} (l : List Ed) {i : Nat} (hi : i ≤ n) : st (csr n l) i = cntLt l i := by unfold st; rw [csr_S l hi]; simp
theorem flat_mem {n : Nat} {l : List Ed} {p : Ed → Int} {x : Int} (h : x ∈ flat n l p) : ∃ e ∈ l, p e = x := by
  simp only [flat, List.mem_flatMap, List.mem_map, outs, List.mem_filter] at h
  obtain ⟨i, -, e, ⟨he, -⟩, rfl⟩ := h
  exact ⟨e, he, rfl⟩
theorem getD_mem {l : List Int} {k : Nat} (h : k < l.length) : l.getD k 0 ∈ l := by
  simp [List.getD, h]
theorem csr_right {n : Nat} {l : List Ed} (h : buildOk n l = true) : Rt (csr n l) := by
  obtain ⟨-, hm⟩ := buildOk_mem h
  have h0 : ∀ e ∈ l, 0 ≤ e.1 := fun e he => (hm e he).1
  have h1 : ∀ e ∈ l, e.1 < (n : Int) := fun e he => (hm e he).2.1
  obtain ⟨hT, hA⟩ := csr_lenT h
  have hS := csr_S_len n l
  refine ⟨by omega, ?_, ?_, by omega, ?_, ?_⟩
  · rw [csr_S l (by omega), cntLt_zero h0]; rfl
  · rw [hS, csr_S l (by omega), hT]
    have : n + 1 - 1 = n := by omega
    rw [this, cntLt_all h1]
  · intro i hi
    rw [csr_S l (by omega), csr_S l (by omega)]
    have := cntLt_mono l (show i ≤ i + 1 by omega)
    omega
  · intro k hk
    obtain ⟨e, he, h2⟩ := flat_mem (getD_mem hk)
    obtain ⟨e', he', h3⟩ := flat_mem (getD_mem (show k < (csr n l).A.length by omega))
    have a := hm e he
    have b := hm e' he'
    have e1 : (csr n l).T.getD k 0 = e.2.2 := h2.symm
    have e2 : (csr n l).A.getD k 0 = e'.2.1 := h3.symm
    rw [e1, e2, hS]; omega
theorem eds_csr {n : Nat} {l : List Ed} (h : buildOk n l = true) {i : Nat} (hi : i < n) : eds (csr n l) i = outs l i := by
  obtain ⟨-, hm⟩ := buildOk_mem h
  have h0 : ∀ e ∈ l, 0 ≤ e.1 := fun e he => (hm e he).1
  unfold eds edsN
  rw [csr_st l (show i + 1 ≤ n by omega), csr_st l (show i ≤ n by omega), cntLt_succ]
  have hc : cntLt l i + cnt l i - cntLt l i = cnt l i := by omega
  rw [hc]
  apply List.ext_getElem?
  intro r
  rw [List.getElem?_map]
  by_cases hr : r < cnt l i
  · rw [List.getElem?_range' hr]
    have hr' : r < (outs l i).length := hr
    have e : cntLt l i + 1 * r = cntLt l i + r := by omega
    have hA := flat_get h0 (fun e => e.2.1) n i r hi hr
    have hT := flat_get h0 (fun e => e.2.2) n i r hi hr
    have hx : (outs l i)[r] ∈ outs l i := List.getElem_mem hr'
    have hx1 : (outs l i)[r].1 = (i : Int) := by
      have := (List.mem_filter.1 hx).2
      simpa using this
    rw [e, List.getElem?_eq_getElem hr', Option.map_some]
    congr 1
    have hg : (outs l i).getD r (0, 0, 0) = (outs l i)[r] := by simp [List.getD, hr']
    rw [hg] at hA hT
    unfold edge
    show ((i : Int), (flat n l _).getD _ 0, (flat n l _).getD _ 0) = _
    rw [hA, hT, ← hx1]
  · rw [List.getElem?_eq_none (by simp; omega), List.getElem?_eq_none (show (outs l i).length ≤ r from by unfold cnt at hr; omega)]; rfl
theorem allL_csr {n : Nat} {l : List Ed} (h : buildOk n l = true) : allL (csr n l) = (List.range n).flatMap (outs l) := by
  rw [allL_right (csr_right h), span_flat, csr_S_len]
  have : n + 1 - 1 = n := by omega
  rw [this]
  have hc : ∀ m, m ≤ n → (List.range m).flatMap (eds (csr n l)) = (List.range m).flatMap (outs l) := by
    intro m
    induction m with
    | zero => intro _; rfl
    | succ m ih => intro hm; rw [List.range_succ, List.flatMap_append, List.flatMap_append, ih (by omega)]; simp [eds_csr h (show m < n by omega)]
  exact hc n (Nat.le_refl _)
theorem mem_all_csr {n : Nat} {l : List Ed} (h : buildOk n l = true) (e : Ed) : e ∈ allL (csr n l) ↔ e ∈ l := by
  obtain ⟨-, hm⟩ := buildOk_mem h
  rw [allL_csr h]
  simp only [List.mem_flatMap, List.mem_range, outs, List.mem_filter, decide_eq_true_eq]
  constructor
  · rintro ⟨i, -, he, -⟩; exact he
  · intro he
    have := hm e he
    exact ⟨e.1.toNat, by omega, he, by omega⟩
theorem countP_sort (p : Ed → Bool) (l : List Ed) (h0 : ∀ e ∈ l, 0 ≤ e.1) : ∀ n : Nat, ((List.range n).flatMap (outs l)).countP p = l.countP (fun e => p e && decide (e.1 < (n : Int)))
  | 0 => by
    have e0 : l.countP (fun e => p e && decide (e.1 < ((0 : Nat) : Int))) = 0 := List.countP_eq_zero.2 (fun e he => by have := h0 e he; simp; omega)
    rw [e0]; rfl
  | n + 1 => by
    rw [List.range_succ, List.flatMap_append, List.countP_append, countP_sort p l h0 n]
    simp only [List.flatMap_cons, List.flatMap_nil, List.append_nil, outs, List.countP_filter]
    clear h0
    induction l with
    | nil => rfl
    | cons e l ih =>
      simp only [List.countP_cons]
      by_cases hp : p e = true
      · by_cases h1 : e.1 < (n : Int)
        · have h2 : e.1 < ((n + 1 : Nat) : Int) := by omega
          have h3 : ¬ e.1 = (n : Int) := by omega
          simp only [hp, h1, h2, h3, decide_true, decide_false, Bool.and_self, Bool.and_false, if_true, Bool.false_eq_true, if_false]; omega
        · by_cases h3 : e.1 = (n : Int)
          · have h2 : e.1 < ((n + 1 : Nat) : Int) := by omega
            simp only [hp, h3, decide_true, Bool.true_and]
            have h4 : ¬ ((n : Int) < (n : Int)) := by omega
            have h5 : ((n : Int) < ((n + 1 : Nat) : Int)) := by omega
            simp only [h4, h5, decide_true, decide_false, Bool.false_eq_true, if_false, if_true]; omega
          · have h2 : ¬ e.1 < ((n + 1 : Nat) : Int) := by omega
            simp only [hp, h1, h2, h3, decide_false, Bool.and_false, Bool.false_eq_true, if_false]; omega
      · have hp' : p e = false := by simpa using hp
        simp only [hp', Bool.false_and, Bool.false_eq_true, if_false]; omega
theorem countP_all_csr (p : Ed → Bool) {n : Nat} {l : List Ed} (h : buildOk n l = true) : (allL (csr n l)).countP p = l.countP p := by
  obtain ⟨-, hm⟩ := buildOk_mem h
  rw [allL_csr h, countP_sort p l (fun e he => (hm e he).1)]
  apply List.countP_congr
  intro e he
  have := hm e he
  simp; omega
/-- an edge of a right graph -/
theorem allL_mem {g : Gr} (h : Rt g) {e : Ed} (he : e ∈ allL g) : 0 ≤ e.1 ∧ e.1 + 1 < g.S.length ∧ 0 ≤ e.2.2 ∧ e.2.2 + 1 < g.S.length ∧ 0 ≤ e.2.1 := by
  rw [allL_right h, span_flat] at he
  obtain ⟨i, hi, he⟩ := List.mem_flatMap.1 he
  rw [List.mem_range] at hi
  simp only [eds, edsN, List.mem_map, List.mem_range'] at he
  obtain ⟨k, ⟨r, hr, rfl⟩, rfl⟩ := he
  have h1 := h.stTop (i := i + 1) (by omega)
  have h2 := h.tos (st g i + 1 * r) (by omega)
  simp only [edge]
  omega
theorem allL_len {g : Gr} (h : Rt g) : (allL g).length = g.T.length := by
  have hne := h.ne
  have h1 := span_len h 0 (g.S.length - 1) (by omega)
  rw [allL_right h, h1]
  have h2 := h.last
  rw [h.st (by omega)] at h2
  have h3 : st g 0 = 0 := by unfold st; rw [h.first]; rfl
  rw [h3, Nat.zero_add]; omega
end Go.Proofs.Ytnlaonppgebpoaa
