/-
  Laws of my own over any program: a region whose last operations write; a run equation as a law; copy out of a text. What a slice of numbers, of truths, of edges, and a graph, read as. A right graph's edges, node by node: no program in sight. The plain theory of a graph's edges, node by node (counting sort): no program in sight. What is built of a graph's edges, and a built graph's edges: no program in sight. The machine's small functions: bounds, truths, what a kind of instructions has.
-/
import Derived.BigQuiet
import Derived.Deep.DeepCutAuto
import Derived.Deep.DeepFit
import Derived.Deep.DeepMust
import Derived.Deep.LoopGhost
import Derived.Deep.QuietTactic
import Derived.Deep.Slices
import Derived.KernelRfl
import Derived.Lib.Hide
import Derived.StillTailTactics
import Derived.WalkKit
import Derived.WalkLawsBesides
import Derived.WalkSpells
import Derived.Test.YtlhpjfnfemebdaaRows
namespace Go.Proofs.Ytlhpjfnfemebdaa
open Go.RowKit
theorem region_tail {P : Program} {id : Nat} {Q : Exit → Act → World → Prop} {a : Act} {w : World} {l : List Oper} (n : Nat) (hm : P.follows .mixedOrders = true) (hB : Region.lexTailB .any l.toArray n = true)
  (h : wpStill P l.toArray w.drew (fun a' => wpList P l.toArray Q (l.drop n) a' w.drew) (l.take n) a) : (Code.region id l.toArray true).wp P Q a w := wp_region_still_tail n hm hB h
def Sub (w : World) : Type := { w' : World // Below w.heap.size w w' }
instance (w : World) : Nonempty (Sub w) := ⟨⟨w, Below.refl _ _⟩⟩
theorem region_below {P : Program} {id : Nat} {Q : Exit → Act → World → Prop} {a : Act} {w : World} {l : List Oper} (hm : P.follows .mixedOrders = true) (hB : Region.lexB .any l.toArray = true)
  (h : wpQuiet P l.toArray (fun w' => ∃ i : Sub w, w' = i.1) (fun a' => ∀ w', Below w.heap.size w w' → Q .normal a' w') l a) : (Code.region id l.toArray true).wp P Q a w := by
 refine wp_region_quiet (C := fun w' => ∃ i : Sub w, w' = i.1) hm hB ⟨⟨w.drew, (Below.refl _ _).drew⟩, rfl⟩ ?_
 have e : (fun a' => ∀ w', (∃ i : Sub w, w' = i.1) → Q .normal a' w') = (fun a' => ∀ w', Below w.heap.size w w' → Q .normal a' w') := by
  funext a'; apply propext
  exact ⟨fun h w' hw => h w' ⟨⟨w', hw⟩, rfl⟩, fun h w' ⟨i, hi⟩ => by subst hi; exact h _ i.2⟩
 rw [e]; simpa using h
theorem Calls.sub_of {P : Program} {f : FuncId} {args : Array Value} {w : World} {i : Sub w} {v : Value}
  (h : Calls P f args i.1 fun e w' => e = .returned v ∧ Below i.1.heap.size i.1 w') : Calls P f args i.1 fun e w'' => e = .returned v ∧ ∃ j : Sub w, w'' = j.1 :=
 h.mono fun _ w' ⟨he, hb⟩ => ⟨he, ⟨w', i.2.trans (hb.mono i.2.size)⟩, rfl⟩
theorem Sub.cell {w : World} (i : Sub w) {p : Addr} {v : Value} (h : w.cell? p = some v) : i.1.cell? p = some v := by
 rw [i.2.cell (World.block_lt_of_cell? w p h)]; exact h
theorem bkeep {w w' : World} (hb : Below w.heap.size w w') {p : Addr} {v : Value} (h : w.cell? p = some v) : w'.cell? p = some v := by
 rw [hb.cell (World.block_lt_of_cell? w p h)]; exact h
theorem bheap {w w' : World} (hb : Below w.heap.size w w') {k : Nat} {o : Obj} (h : w.heap[k]? = some o) : w'.heap[k]? = some o := by
 rw [hb.block k (Array.getElem?_eq_some_iff.1 h).1]; exact h
structure Frm (F : Nat → Prop) (w w' : World) : Prop where
 os : w'.os = w.os
 tape : w'.tape = w.tape
 output : w'.output = w.output
 size : w.heap.size ≤ w'.heap.size
 block : ∀ k, k < w.heap.size → ¬ F k → w'.heap[k]? = w.heap[k]?
theorem Frm.refl (F : Nat → Prop) (w : World) : Frm F w w := ⟨rfl, rfl, rfl, Nat.le_refl _, fun _ _ _ => rfl⟩
theorem Frm.trans {F : Nat → Prop} {a b c : World} (h : Frm F a b) (k : Frm F b c) : Frm F a c :=
 ⟨k.os.trans h.os, k.tape.trans h.tape, k.output.trans h.output, Nat.le_trans h.size k.size, fun i hi hF => (k.block i (Nat.lt_of_lt_of_le hi h.size) hF).trans (h.block i hi hF)⟩
theorem Frm.mono {F G : Nat → Prop} {w w' : World} (h : Frm F w w') (hFG : ∀ k, k < w.heap.size → F k → G k) : Frm G w w' :=
 ⟨h.os, h.tape, h.output, h.size, fun k hk hG => h.block k hk (fun f => hG (hFG k hk f))⟩
theorem Frm.drew {F : Nat → Prop} {a w : World} (h : Frm F a w) : Frm F a w.drew := ⟨h.os, h.tape, h.output, h.size, h.block⟩
theorem Frm.alloc {F : Nat → Prop} {a w : World} (h : Frm F a w) (o : Obj) : Frm F a (w.alloc o) :=
 ⟨h.os, h.tape, h.output, by simp; have := h.size; omega, fun k hk hF => (Below.heap_alloc w o k (Nat.lt_of_lt_of_le hk h.size)).trans (h.block k hk hF)⟩
theorem Frm.setCell {F : Nat → Prop} {a w : World} (h : Frm F a w) {p : Addr} (hp : p.block < a.heap.size → F p.block) (u : Value) : Frm F a (w.setCell p u) :=
 ⟨h.os, h.tape, h.output, by simpa using h.size, fun k hk hF => (Below.heap_setCell w p u k (fun e => hF (e ▸ hp (e ▸ hk)))).trans (h.block k hk hF)⟩
theorem Frm.grown {F : Nat → Prop} {a w w' : World} {row : Option Nat} (h : Frm F a w) (hg : w.grownBy w' row) (hr : ∀ k, row = some k → k < a.heap.size → F k) : Frm F a w' :=
 ⟨hg.os.trans h.os, hg.tape.trans h.tape, hg.output.trans h.output, Nat.le_trans h.size hg.size,
  fun k hk hF => (hg.block k (Nat.lt_of_lt_of_le hk h.size) (fun e => hF (hr k e.symm hk))).trans (h.block k hk hF)⟩
theorem bfrm {w w' : World} (h : Below w.heap.size w w') (F : Nat → Prop) : Frm F w w' := ⟨h.os, h.tape, h.output, h.size, fun k hk _ => h.block k hk⟩
theorem Frm.below {F : Nat → Prop} {w w' : World} (h : Frm F w w') {B : Nat} (hB : ∀ k, F k → B ≤ k) (hw : B ≤ w.heap.size) : Below B w w' :=
 ⟨h.os, h.tape, h.output, h.size, fun k hk => h.block k (Nat.lt_of_lt_of_le hk hw) (fun f => by have := hB k f; omega)⟩
theorem Frm.heap {F : Nat → Prop} {w w' : World} (hb : Frm F w w') {k : Nat} {o : Obj} (h : w.heap[k]? = some o) (hF : ¬ F k) : w'.heap[k]? = some o := by
 rw [hb.block k (Array.getElem?_eq_some_iff.1 h).1 hF]; exact h
theorem Frm.cell {F : Nat → Prop} {w w' : World} (hb : Frm F w w') {p : Addr} {v : Value} (h : w.cell? p = some v) (hF : ¬ F p.block) : w'.cell? p = some v := by
 rw [World.cell?_of_block (w := w) (hb.block p.block (World.block_lt_of_cell? w p h) hF)]; exact h
theorem cell_of_block {w : World} {b : Nat} {c : Array Value} {t : TypeId} {fr : Nat × Nat} (h : w.heap[b]? = some (.cells c t fr)) (i : Nat) (v : Value) (hi : c[i]? = some v) : w.cell? ⟨b, i, none⟩ = some v := by
 simp [World.cell?, h, hi]
theorem free_of_block {w : World} {b : Nat} {c : Array Value} {t : TypeId} (h : w.heap[b]? = some (.cells c t (0, 0))) (i : Nat) : w.frozen? ⟨b, i, none⟩ = false := by
 simp [World.frozen?, h]
theorem heap_setCell_block {w : World} {b : Nat} {c : Array Value} {t : TypeId} {fr : Nat × Nat} (h : w.heap[b]? = some (.cells c t fr)) (i : Nat) (v : Value) :
  (w.setCell ⟨b, i, none⟩ v).heap[b]? = some (.cells (c.setIfInBounds i v) t fr) := by
 simp only [World.setCell, Array.getElem?_modify, if_true, h, Option.map_some]; rfl
theorem heap_alloc_at (w : World) (o : Obj) (k : Nat) (hk : k = w.heap.size) : (w.alloc o).heap[k]? = some o := by subst hk; exact heap_alloc_new w o
theorem ownsRow_full {w : World} {base : Nat} {e : TypeId} {size : Nat} {g n : Nat} {xs : List Value} (h : w.ownsRow base e size (.slice (some ⟨g, 0, none⟩) n n) n xs) : w.heap[g]? = some (.cells xs.toArray e (0, 0)) := by
 rcases h.2 with ⟨hv, _⟩ | ⟨g', cap, cur, hv, _, hg, _, _, hs, ht⟩
 ·cases hv
 ·cases hv
  have : cur.toList = xs := by rw [← ht, List.take_of_length_le (by simp [hs])]
  rw [hg, ← this]
theorem madeCells_one (z : Value) (n : Nat) : (madeCells #[z] n).toList = List.replicate n z := by
 apply List.ext_getElem?
 intro i
 by_cases h : i < n
 ·simp [madeCells, h, Nat.mod_one]
 ·simp [madeCells, h]
theorem wpList_make_one {P : Program} (w : World) {ops : Array Oper} {rest : List Oper} {o : Oper} {a : Act} {Q : Exit → Act → World → Prop}
  (hg : o.guard = none) (l c : Operand) (t : TypeId) (hop : o.op = Op.makeSlice t l c)
  (e : TypeId) (z : Value) (hz : z.cells = #[z]) (bytes : Nat) (h1 : P.underlying t = some (.slice e)) (h2 : (P.info? e).map (fun i => (i.zero, i.size, i.bytes)) = some (some z, 1, bytes))
  (kl kc : IntKind) (L C : Int) (n : Nat) (hl : a.eval l = .int kl L) (hc : a.eval c = .int kc C) (hL : L = (n : Int)) (hC : C = (n : Int)) (b2 : bytes * n ≤ 281474976710656) (b3 : n ≤ maxLen)
  (hK : ∀ w', w'.heap[w.heap.size]? = some (.cells (List.replicate n z).toArray e (0, 0)) → Below w.heap.size w w' → w.heap.size < w'.heap.size → wpList P ops Q rest (a.put o.dst (.slice (some ⟨w.heap.size, 0, none⟩) n n)) w') :
  wpList P ops Q (o :: rest) a w := by
 obtain ⟨i, hi, hz0, hz1, hz2⟩ := info_parts h2
 refine wpList_make_full w hg l c t hop 0 e i z 1 h1 hi hz0 hz1 kl kc L C n hl hc hL hC (by rw [hz2]; exact b2) b3 (Nat.zero_le _) ?_
 intro w' hown hgr
 have hh := ownsRow_full hown
 rw [Nat.mul_one, hz, madeCells_one] at hh
 refine hK w' hh ((Below.refl _ _).grown hgr (Nat.le_refl _) (fun k hk => by cases hk)) (Array.getElem?_eq_some_iff.1 hh).1
theorem bdrewN {B : Nat} {a w : World} (h : Below B a w) (n : Nat) : Below B a (w.drewN n) := ⟨h.os, h.tape, h.output, h.size, h.block⟩
end Go.Proofs.Ytlhpjfnfemebdaa
namespace Go.Proofs.Ytlhpjfnfemebdaa
open Go.RowKit
def IntsAt (w : World) (v : Value) (xs : List Int) : Prop :=
 ∃ a cap, v = .slice a xs.length cap ∧ ∀ j, j < xs.length → ∃ b off, a = some ⟨b, off, none⟩ ∧ w.cell? ⟨b, off + j, none⟩ = some (.int .i64 (xs.getD j 0))
def BoolsAt (w : World) (v : Value) (xs : List Bool) : Prop :=
 ∃ a cap, v = .slice a xs.length cap ∧ ∀ j, j < xs.length → ∃ b off, a = some ⟨b, off, none⟩ ∧ w.cell? ⟨b, off + j, none⟩ = some (.bool (xs.getD j false))
abbrev Ed := Int × Int × Int
def EdgesAt (w : World) (v : Value) (l : List Ed) : Prop :=
 ∃ a cap, v = .slice a l.length cap ∧ ∀ j, j < l.length → ∃ b off, a = some ⟨b, off, none⟩ ∧ w.cell? ⟨b, off + j * 3, none⟩ = some (.int .i64 (l.getD j (0, 0, 0)).1) ∧
  w.cell? ⟨b, off + j * 3 + 1, none⟩ = some (.int .i64 (l.getD j (0, 0, 0)).2.1) ∧ w.cell? ⟨b, off + j * 3 + 2, none⟩ = some (.int .i64 (l.getD j (0, 0, 0)).2.2)
structure Gr where
 S : List Int
 A : List Int
 T : List Int
structure GraphAt (w : World) (v : Value) (g : Gr) : Prop where
 ex : ∃ s a t, v = .agg #[s, a, t] ∧ IntsAt w s g.S ∧ IntsAt w a g.A ∧ IntsAt w t g.T
 sS : g.S.length ≤ 1000000
 sA : g.A.length ≤ 1000000
 sT : g.T.length ≤ 1000000
theorem IntsAt.below {w w' : World} {v : Value} {l : List Int} (h : IntsAt w v l) (hb : Below w.heap.size w w') : IntsAt w' v l :=
 let ⟨a, cap, h1, h2⟩ := h
 ⟨a, cap, h1, fun j hj => let ⟨b, off, e, hc⟩ := h2 j hj; ⟨b, off, e, bkeep hb hc⟩⟩
theorem BoolsAt.below {w w' : World} {v : Value} {l : List Bool} (h : BoolsAt w v l) (hb : Below w.heap.size w w') : BoolsAt w' v l :=
 let ⟨a, cap, h1, h2⟩ := h
 ⟨a, cap, h1, fun j hj => let ⟨b, off, e, hc⟩ := h2 j hj; ⟨b, off, e, bkeep hb hc⟩⟩
theorem EdgesAt.below {w w' : World} {v : Value} {l : List Ed} (h : EdgesAt w v l) (hb : Below w.heap.size w w') : EdgesAt w' v l :=
 let ⟨a, cap, h1, h2⟩ := h
 ⟨a, cap, h1, fun j hj => let ⟨b, off, e, hc, hd, he⟩ := h2 j hj; ⟨b, off, e, bkeep hb hc, bkeep hb hd, bkeep hb he⟩⟩
theorem GraphAt.below {w w' : World} {v : Value} {g : Gr} (h : GraphAt w v g) (hb : Below w.heap.size w w') : GraphAt w' v g :=
 let ⟨⟨s, a, t, e, h1, h2, h3⟩, h4, h5, h6⟩ := h
 ⟨⟨s, a, t, e, h1.below hb, h2.below hb, h3.below hb⟩, h4, h5, h6⟩
theorem balloc (w : World) (o : Obj) : Below w.heap.size w (w.alloc o) := (Below.refl _ _).alloc (Nat.le_refl _) o
theorem intsAt_nil (w : World) : IntsAt w (.slice none 0 0) [] := ⟨none, 0, rfl, fun j hj => by simp at hj⟩
theorem boolsAt_nil (w : World) : BoolsAt w (.slice none 0 0) [] := ⟨none, 0, rfl, fun j hj => by simp at hj⟩
theorem edgesAt_nil (w : World) : EdgesAt w (.slice none 0 0) [] := ⟨none, 0, rfl, fun j hj => by simp at hj⟩
theorem graphAt_nil (w : World) : GraphAt w (.agg #[.slice none 0 0, .slice none 0 0, .slice none 0 0]) ⟨[], [], []⟩ :=
 ⟨⟨_, _, _, rfl, intsAt_nil w, intsAt_nil w, intsAt_nil w⟩, by simp, by simp, by simp⟩
def ints (xs : List Int) : Array Value := (xs.map (fun x : Int => Value.int .i64 x)).toArray
theorem ints_get (xs : List Int) (p : Nat) (hp : p < xs.length) : (ints xs)[p]? = some (.int .i64 (xs.getD p 0)) := by
 simp [ints, List.getD, hp]
theorem ints_set (xs : List Int) (p : Nat) (v : Int) : (ints xs).setIfInBounds p (.int .i64 v) = ints (xs.set p v) := by
 unfold ints; simp [List.map_set]
theorem ints_replicate (n : Nat) : ints (List.replicate n 0) = (List.replicate n (Value.int .i64 0)).toArray := by
 unfold ints; rw [List.map_replicate]
theorem intsAt_block {w : World} {b n : Nat} {xs : List Int} (h : w.heap[b]? = some (.cells (ints xs) 3 (0, 0))) (hn : n = xs.length) (cap : Nat) : IntsAt w (.slice (some ⟨b, 0, none⟩) n cap) xs := by
 subst hn
 exact ⟨_, cap, rfl, fun j hj => ⟨b, 0, rfl, cell_of_block h _ _ (by rw [Nat.zero_add]; exact ints_get xs j hj)⟩⟩
theorem getD_set_same {α : Type} (l : List α) (p : Nat) (v z : α) (hp : p < l.length) : (l.set p v).getD p z = v := by simp [List.getD, hp]
theorem getD_set_other {α : Type} (l : List α) (p q : Nat) (v z : α) (h : p ≠ q) : (l.set p v).getD q z = l.getD q z := by simp [List.getD, h]
structure Rt (g : Gr) : Prop where
 ne : 0 < g.S.length
 first : g.S.getD 0 0 = 0
 last : g.S.getD (g.S.length - 1) 0 = g.T.length
 lens : g.A.length = g.T.length
 mono : ∀ i, i + 1 < g.S.length → g.S.getD i 0 ≤ g.S.getD (i + 1) 0
 tos : ∀ k, k < g.T.length → 0 ≤ g.T.getD k 0 ∧ g.T.getD k 0 + 1 < g.S.length ∧ 0 ≤ g.A.getD k 0
def rightB (g : Gr) : Bool :=
 decide (0 < g.S.length) && decide (g.S.getD 0 0 = 0) && decide (g.S.getD (g.S.length - 1) 0 = g.T.length) && decide (g.A.length = g.T.length) &&
  (List.range (g.S.length - 1)).all (fun i => decide (g.S.getD i 0 ≤ g.S.getD (i + 1) 0)) &&
  (List.range g.T.length).all (fun k => decide (0 ≤ g.T.getD k 0) && decide (g.T.getD k 0 + 1 < g.S.length) && decide (0 ≤ g.A.getD k 0))
theorem rightB_iff (g : Gr) : rightB g = true ↔ Rt g := by
 simp only [rightB, Bool.and_eq_true, decide_eq_true_eq, List.all_eq_true, List.mem_range]
 constructor
 ·rintro ⟨⟨⟨⟨⟨h1, h2⟩, h3⟩, h4⟩, h5⟩, h6⟩
  exact ⟨h1, h2, h3, h4, fun i hi => h5 i (by omega), fun k hk => let ⟨⟨a, b⟩, c⟩ := h6 k hk; ⟨a, b, c⟩⟩
 ·rintro ⟨h1, h2, h3, h4, h5, h6⟩
  exact ⟨⟨⟨⟨⟨h1, h2⟩, h3⟩, h4⟩, fun i hi => h5 i (by omega)⟩, fun k hk => ⟨⟨(h6 k hk).1, (h6 k hk).2.1⟩, (h6 k hk).2.2⟩⟩
theorem rightB_false {g : Gr} (h : ¬ Rt g) : rightB g = false := by
 cases e : rightB g
 ·rfl
 ·exact (h ((rightB_iff g).1 e)).elim
end Go.Proofs.Ytlhpjfnfemebdaa
namespace Go.Proofs.Ytlhpjfnfemebdaa
def st (g : Gr) (i : Nat) : Nat := (g.S.getD i 0).toNat
def edge (g : Gr) (i k : Nat) : Ed := ((i : Int), g.A.getD k 0, g.T.getD k 0)
def edsN (g : Gr) (i m : Nat) : List Ed := (List.range' (st g i) m).map (edge g i)
def eds (g : Gr) (i : Nat) : List Ed := edsN g i (st g (i + 1) - st g i)
def span (g : Gr) (a m : Nat) : List Ed := (List.range' a m).flatMap (eds g)
theorem edsN_succ (g : Gr) (i m : Nat) : edsN g i (m + 1) = edsN g i m ++ [edge g i (st g i + m)] := by
 simp [edsN, List.range'_concat]
theorem edsN_len (g : Gr) (i m : Nat) : (edsN g i m).length = m := by simp [edsN]
theorem span_succ (g : Gr) (a m : Nat) : span g a (m + 1) = span g a m ++ eds g (a + m) := by
 simp [span, List.range'_concat]
theorem Rt.mono' {g : Gr} (h : Rt g) {i : Nat} : ∀ j, i ≤ j → j < g.S.length → g.S.getD i 0 ≤ g.S.getD j 0
 | 0, hij, _ => by obtain rfl : i = 0 := by omega
                   exact Int.le_refl _
 | j + 1, hij, hj => by
  by_cases e : i = j + 1
  ·rw [e]; exact Int.le_refl _
  ·exact Int.le_trans (h.mono' j (by omega) (by omega)) (h.mono j hj)
theorem Rt.st {g : Gr} (h : Rt g) {i : Nat} (hi : i < g.S.length) : g.S.getD i 0 = (st g i : Int) := by
 have := h.mono' (i := 0) i (Nat.zero_le _) hi
 rw [h.first] at this
 unfold Proofs.Ytlhpjfnfemebdaa.st; omega
theorem Rt.stLe {g : Gr} (h : Rt g) {i j : Nat} (hij : i ≤ j) (hj : j < g.S.length) : Proofs.Ytlhpjfnfemebdaa.st g i ≤ Proofs.Ytlhpjfnfemebdaa.st g j := by
 have := h.mono' j hij hj
 rw [h.st hj, h.st (by omega)] at this; omega
theorem Rt.stTop {g : Gr} (h : Rt g) {i : Nat} (hi : i < g.S.length) : Proofs.Ytlhpjfnfemebdaa.st g i ≤ g.T.length := by
 have h1 := h.mono' (i := i) (g.S.length - 1) (by omega) (by omega)
 rw [h.last, h.st hi] at h1; omega
theorem span_len {g : Gr} (h : Rt g) (a : Nat) : ∀ m, a + m < g.S.length → (span g a m).length = st g (a + m) - st g a
 | 0, _ => by simp [span]
 | m + 1, hm => by
  rw [span_succ, List.length_append, span_len h a m (by omega), eds, edsN_len]
  have h1 := h.stLe (i := a) (j := a + m) (by omega) (by omega)
  have h2 := h.stLe (i := a + m) (j := a + m + 1) (by omega) (by omega)
  have e : a + (m + 1) = a + m + 1 := rfl
  rw [e]; omega
end Go.Proofs.Ytlhpjfnfemebdaa
namespace Go.Proofs.Ytlhpjfnfemebdaa
open Go.RowKit
def tab {α : Type} (m : Nat) (f : Nat → α) : List α := (List.range m).map f
theorem tab_len {α : Type} (m : Nat) (f : Nat → α) : (tab m f).length = m := by simp [tab]
theorem tab_get {α : Type} (m : Nat) (f : Nat → α) (z : α) (j : Nat) (hj : j < m) : (tab m f).getD j z = f j := by simp [tab, List.getD, hj]
theorem tab_set {α : Type} (m : Nat) (f g : Nat → α) (j : Nat) (v : α) (hv : j < m → g j = v) (hg : ∀ x, x < m → x ≠ j → g x = f x) : (tab m f).set j v = tab m g := by
 apply List.ext_getElem?
 intro i
 simp only [tab, List.getElem?_set, List.getElem?_map, List.length_map, List.length_range]
 by_cases hi : i < m
 ·by_cases hij : j = i
  ·subst hij; simp [hi, hv hi]
  ·simp [hij, hi, hg i hi (fun e => hij e.symm)]
 ·by_cases hij : j = i
  ·subst hij; simp [hi]
  ·simp [hij, hi]
def okE (n : Int) (e : Ed) : Bool := decide (0 ≤ e.1 ∧ e.1 < n ∧ 0 ≤ e.2.2 ∧ e.2.2 < n ∧ 0 ≤ e.2.1)
def outs (l : List Ed) (i : Nat) : List Ed := l.filter (fun e => decide (e.1 = (i : Int)))
def cnt (l : List Ed) (i : Nat) : Nat := (outs l i).length
def cntLt (l : List Ed) (i : Nat) : Nat := (l.filter (fun e => decide (e.1 < (i : Int)))).length
theorem cntLt_succ (l : List Ed) (i : Nat) : cntLt l (i + 1) = cntLt l i + cnt l i := by
 unfold cntLt cnt outs
 induction l with
 | nil => rfl
 | cons e l ih =>
  simp only [List.filter_cons]
  by_cases h1 : e.1 < (i : Int)
  ·have h2 : e.1 < ((i + 1 : Nat) : Int) := by omega
   have h3 : ¬ e.1 = (i : Int) := by omega
   simp only [h1, h2, h3, decide_true, decide_false, if_true, List.length_cons, Bool.false_eq_true, if_false, ih]; omega
  ·by_cases h3 : e.1 = (i : Int)
   ·have h2 : e.1 < ((i + 1 : Nat) : Int) := by omega
    simp only [h3, decide_true, if_true, List.length_cons]
    have h4 : ¬ ((i : Int) < (i : Int)) := by omega
    have h5 : ((i : Int) < ((i + 1 : Nat) : Int)) := by omega
    simp only [h4, h5, decide_true, decide_false, if_true, Bool.false_eq_true, if_false, List.length_cons, ih]; omega
   ·have h2 : ¬ e.1 < ((i + 1 : Nat) : Int) := by omega
    simp only [h1, h2, h3, decide_false, Bool.false_eq_true, if_false, ih]
theorem cntLt_zero {l : List Ed} (h : ∀ e ∈ l, 0 ≤ e.1) : cntLt l 0 = 0 := by
 unfold cntLt
 rw [List.length_eq_zero_iff, List.filter_eq_nil_iff]
 intro e he; have := h e he; simp; omega
theorem cnt_take_le (l : List Ed) (k i : Nat) : cnt (l.take k) i ≤ cnt l i := by
 unfold cnt outs
 exact (List.Sublist.filter _ (List.take_sublist k l)).length_le
def flat (n : Nat) (l : List Ed) (h : Ed → Int) : List Int := (List.range n).flatMap (fun i => (outs l i).map h)
def csr (n : Nat) (l : List Ed) : Gr := ⟨tab (n + 1) (fun i => (cntLt l i : Int)), flat n l (fun e => e.2.1), flat n l (fun e => e.2.2)⟩
def buildOk (n : Int) (l : List Ed) : Bool := decide (0 ≤ n ∧ n ≤ 100000) && l.all (okE n)
def buildG (n : Int) (l : List Ed) : Gr := if buildOk n l = true then csr n.toNat l else ⟨[], [], []⟩
def buildE (n : Int) (l : List Ed) : Int := if buildOk n l = true then 0 else 1
theorem flat_succ (n : Nat) (l : List Ed) (h : Ed → Int) : flat (n + 1) l h = flat n l h ++ (outs l n).map h := by
 simp [flat, List.range_succ]
theorem flat_len {l : List Ed} (h0 : ∀ e ∈ l, 0 ≤ e.1) (h : Ed → Int) : ∀ n, (flat n l h).length = cntLt l n
 | 0 => by rw [cntLt_zero h0]; simp [flat]
 | n + 1 => by rw [flat_succ, List.length_append, flat_len h0 h n, cntLt_succ, List.length_map]; rfl
def nx (n : Nat) (l : List Ed) (k : Nat) : List Int := tab (n + 1) (fun j => (cntLt l j : Int) + (cnt (l.take k) j : Int))
end Go.Proofs.Ytlhpjfnfemebdaa
namespace Go.Proofs.Ytlhpjfnfemebdaa
def allL (g : Gr) : List Ed := if rightB g = true then span g 0 (g.S.length - 1) else []
theorem allL_right {g : Gr} (h : Rt g) : allL g = span g 0 (g.S.length - 1) := by unfold allL; rw [if_pos ((rightB_iff g).2 h)]
theorem allL_not {g : Gr} (h : rightB g = false) : allL g = [] := by unfold allL; rw [h]; rfl
theorem eds_fst {g : Gr} {i : Nat} {e : Ed} (h : e ∈ eds g i) : e.1 = (i : Int) := by
 simp only [eds, edsN, List.mem_map] at h
 obtain ⟨k, -, rfl⟩ := h
 rfl
theorem span_flat (g : Gr) (n : Nat) : span g 0 n = (List.range n).flatMap (eds g) := by
 unfold span; rw [List.range_eq_range']
theorem buildOk_mem {n : Nat} {l : List Ed} (h : buildOk n l = true) : n ≤ 100000 ∧ ∀ e ∈ l, 0 ≤ e.1 ∧ e.1 < (n : Int) ∧ 0 ≤ e.2.2 ∧ e.2.2 < (n : Int) ∧ 0 ≤ e.2.1 := by
 simp only [buildOk, Bool.and_eq_true, List.all_eq_true, okE, decide_eq_true_eq] at h
 exact ⟨by omega, h.2⟩
theorem buildG_bad {n : Int} {l : List Ed} (h : buildOk n l = false) : buildG n l = ⟨[], [], []⟩ := by simp [buildG, h]
theorem getD_mem {l : List Int} {k : Nat} (h : k < l.length) : l.getD k 0 ∈ l := by
 simp [List.getD, h]
theorem allL_mem {g : Gr} (h : Rt g) {e : Ed} (he : e ∈ allL g) : 0 ≤ e.1 ∧ e.1 + 1 < g.S.length ∧ 0 ≤ e.2.2 ∧ e.2.2 + 1 < g.S.length ∧ 0 ≤ e.2.1 := by
 rw [allL_right h, span_flat] at he
 obtain ⟨i, hi, he⟩ := List.mem_flatMap.1 he
 rw [List.mem_range] at hi
 simp only [eds, edsN, List.mem_map, List.mem_range'] at he
 obtain ⟨k, ⟨r, hr, rfl⟩, rfl⟩ := he
 have h1 := h.stTop (i := i + 1) (by omega)
 have h2 := h.tos (st g i + 1 * r) (by omega)
 simp only [edge]
 omega
theorem allL_len {g : Gr} (h : Rt g) : (allL g).length = g.T.length := by
 have hne := h.ne
 have h1 := span_len h 0 (g.S.length - 1) (by omega)
 rw [allL_right h, h1]
 have h2 := h.last
 rw [h.st (by omega)] at h2
 have h3 : st g 0 = 0 := by unfold st; rw [h.first]; rfl
 rw [h3, Nat.zero_add]; omega
end Go.Proofs.Ytlhpjfnfemebdaa
namespace Go.Proofs.Ytlhpjfnfemebdaa
open Go.RowKit
def inR (x m : Int) : Bool := decide (0 ≤ x) && decide (x < m)
theorem inR_iff {x m : Int} : inR x m = true ↔ 0 ≤ x ∧ x < m := by unfold inR; rw [Bool.and_eq_true, decide_eq_true_iff, decide_eq_true_iff]
set_option maxRecDepth 100000 in
set_option maxHeartbeats 1000000 in
theorem in6_ok (x m : Int) (w : World) : Calls Try.prog 74 #[.int .i64 x, .int .i64 m] w fun e w' => e = .returned (.bool (inR x m)) ∧ Below w.heap.size w w' := by
 unfold inR
 by_cases h : 0 ≤ x
 ·go_enter Try.func74, Try.ntmps74
  go_wp2_with fail
  go_ret
  exact ⟨by rw [decide_eq_true h]; rfl, Below.refl _ _⟩
 ·have h' : x < 0 := by omega
  go_enter Try.func74, Try.ntmps74
  go_wp2_with fail
  go_ret
  exact ⟨by rw [decide_eq_false (show ¬ 0 ≤ x by omega)]; rfl, Below.refl _ _⟩
set_option maxRecDepth 100000 in
set_option maxHeartbeats 1000000 in
theorem in7_ok (x m : Int) (w : World) : Calls Try.prog 77 #[.int .i64 x, .int .i64 m] w fun e w' => e = .returned (.bool (inR x m)) ∧ Below w.heap.size w w' := by
 unfold inR
 by_cases h : 0 ≤ x
 ·go_enter Try.func77, Try.ntmps77
  go_wp2_with fail
  go_ret
  exact ⟨by rw [decide_eq_true h]; rfl, Below.refl _ _⟩
 ·have h' : x < 0 := by omega
  go_enter Try.func77, Try.ntmps77
  go_wp2_with fail
  go_ret
  exact ⟨by rw [decide_eq_false (show ¬ 0 ≤ x by omega)]; rfl, Below.refl _ _⟩
def allR (l : List Int) (m : Int) : Bool := l.all (fun x => inR x m)
theorem allR_iff {l : List Int} {m : Int} : allR l m = true ↔ ∀ x ∈ l, 0 ≤ x ∧ x < m := by unfold allR; rw [List.all_eq_true]; exact forall₂_congr fun x _ => inR_iff
theorem allR_bad {l : List Int} {m : Int} {k : Nat} (hk : k < l.length) (h : inR (l.getD k 0) m = false) : allR l m = false := by
 cases ha : allR l m
 ·rfl
 ·have h1 := (allR_iff.1 ha) (l.getD k 0) (by simp [List.getD, hk])
  rw [inR_iff.2 h1] at h; cases h
theorem allR_ok {l : List Int} {m : Int} (h : ∀ k, k < l.length → inR (l.getD k 0) m = true) : allR l m = true := by
 refine allR_iff.2 fun x hx => ?_
 obtain ⟨k, hk, rfl⟩ := List.getElem_of_mem hx
 have := h k hk
 rw [List.getD_eq_getElem?_getD, List.getElem?_eq_getElem hk] at this
 exact inR_iff.1 this
set_option maxRecDepth 100000 in
set_option maxHeartbeats 4000000 in
theorem all6_ok (v : Value) (l : List Int) (m : Int) (w : World) (h : IntsAt w v l) (hl : l.length ≤ 1000000) :
  Calls Try.prog 56 #[v, .int .i64 m] w fun e w' => e = .returned (.bool (allR l m)) ∧ Below w.heap.size w w' := by
 obtain ⟨a, ac, rfl, ha⟩ := h
 have HA := Lib.hid ha
 have HY : Hid ((∀ k, k < l.length → inR (l.getD k 0) m = true) → allR l m = true) := Lib.hid allR_ok
 have HN : Hid (∀ k, k < l.length → inR (l.getD k 0) m = false → allR l m = false) := Lib.hid (fun k hk h => allR_bad hk h)
 clear ha
 generalize allR l m = RES at *
 go_enter Try.func56, Try.ntmps56
 go_wp2_with fail
 go_loopg [5] l.length (fun fu c wr => ∃ k : Nat, k + fu = l.length ∧ c = .int .i64 k ∧ Hid (∀ j, j < k → inR (l.getD j 0) m = true) ∧ Hid (Below w.heap.size w wr))
 case atStart => exact ⟨0, by omega, rfl, Lib.hid (fun j hj => by omega), Lib.hid (Below.refl _ _)⟩
 case round =>
  obtain ⟨k, hk, rfl, HI, HB⟩ := hrel
  by_cases hlt : k < l.length
  ·obtain ⟨b1, o1, rfl, d1⟩ := HA.out k hlt
   have d1 := bkeep HB.out d1
   have z1 : (k : Int) < (l.length : Int) := by omega
   have HIN := Lib.hid (in6_ok (l.getD k 0) m wr)
   have HK := Lib.hid (HN.out k hlt)
   have HS : Hid (inR (l.getD k 0) m = true → ∀ j, j < k + 1 → inR (l.getD j 0) m = true) := Lib.hid (fun h j hj => by
    by_cases e : j = k
    ·rw [e]; exact h
    ·exact HI.out j (by omega))
   generalize l.getD k 0 = x at d1 HIN HK HS
   cases hx : inR x m
   ·rw [hx] at HIN HK
    have E := Lib.hid (HK.out rfl)
    clear hx HS HK
    go_wp2_with (go_at_call 74; refine HIN.out.mono ?_; rintro e w2 ⟨rfl, hb2⟩; have HB2 := Lib.hid (HB.out.trans (hb2.mono HB.out.size)); clear hb2)
    go_ret
    exact ⟨by rw [E.out]; rfl, HB2.out⟩
   ·rw [hx] at HIN
    have HS2 := Lib.hid (HS.out hx)
    clear hx HS HK
    go_wp2_with (go_at_call 74; refine HIN.out.mono ?_; rintro e w2 ⟨rfl, hb2⟩; have HB2 := Lib.hid (HB.out.trans (hb2.mono HB.out.size)); clear hb2)
    go_roundg (l.length - (k + 1))
    case measure => omega
    case rel => exact ⟨k + 1, by omega, by simp, HS2, HB2⟩
  ·have hkk : k = l.length := by omega
   subst hkk
   have E := Lib.hid (HY.out HI.out)
   go_wp2_with fail
   go_ret
   exact ⟨by rw [E.out]; rfl, HB.out⟩
def truI (b : Bool) : Int := if b = true then 1 else 0
set_option maxRecDepth 100000 in
set_option maxHeartbeats 1000000 in
theorem truth_ok (b : Bool) (w : World) : Calls Try.prog 89 #[.bool b] w fun e w' => e = .returned (.int .i64 (truI b)) ∧ Below w.heap.size w w' := by
 cases b
 ·go_enter Try.func89, Try.ntmps89
  go_wp2_with fail
  go_ret
  exact ⟨rfl, Below.refl _ _⟩
 ·go_enter Try.func89, Try.ntmps89
  go_wp2_with fail
  go_ret
  exact ⟨rfl, Below.refl _ _⟩
def twoI (op a b m : Int) : Int :=
 if op = 6 then (a + b) % m else if op = 7 then (a - b + m) % m else if op = 8 then a * b % m else if op = 9 then truI (a == b) else if op = 10 then truI (a != b) else if op = 11 then truI (decide (a < b)) else if op = 12 then truI (decide (a ≤ b)) else if op = 13 then truI (a != 0 && b != 0) else truI (a != 0 || b != 0)
theorem twoI_in {op a b m : Int} (hm : 2 ≤ m) : 0 ≤ twoI op a b m ∧ twoI op a b m < m := by
 have t : ∀ b, 0 ≤ truI b ∧ truI b < m := fun b => by cases b <;> simp [truI] <;> omega
 unfold twoI
 split
 ·exact ⟨Int.emod_nonneg _ (by omega), Int.emod_lt_of_pos _ (by omega)⟩
 split
 ·exact ⟨Int.emod_nonneg _ (by omega), Int.emod_lt_of_pos _ (by omega)⟩
 split
 ·exact ⟨Int.emod_nonneg _ (by omega), Int.emod_lt_of_pos _ (by omega)⟩
 repeat' split
 all_goals exact t _
set_option maxRecDepth 100000 in
set_option maxHeartbeats 4000000 in
theorem two_ok (op a b m : Int) (w : World) (h0 : 0 ≤ a ∧ a < 16) (h1 : 0 ≤ b ∧ b < 16) (hm : 2 ≤ m ∧ m ≤ 16) (hbm : b < m) :
  Calls Try.prog 90 #[.int .i64 op, .int .i64 a, .int .i64 b, .int .i64 m] w fun e w' => e = .returned (.int .i64 (twoI op a b m)) ∧ Below w.heap.size w w' := by
 have nm : (m == 0) = false := beq_false_of_ne (by omega)
 have HT := Lib.hid truth_ok
 have hmul : 0 ≤ a * b ∧ a * b ≤ 256 := ⟨Int.mul_nonneg (by omega) (by omega), by have := Int.mul_le_mul (show a ≤ 16 by omega) (show b ≤ 16 by omega) (by omega) (by omega); omega⟩
 have W1 : IntKind.i64.wrap (a + b) = a + b := IntWalk.i64_in _ (by omega)
 have W2 : IntKind.i64.wrap (a - b) = a - b := IntWalk.i64_in _ (by omega)
 have W3 : IntKind.i64.wrap (a - b + m) = a - b + m := IntWalk.i64_in _ (by omega)
 have W4 : IntKind.i64.wrap (a * b) = a * b := IntWalk.i64_in _ (by omega)
 have T1 : (a + b).tmod m = (a + b) % m := Int.tmod_eq_emod_of_nonneg (by omega)
 have T2 : (a - b + m).tmod m = (a - b + m) % m := Int.tmod_eq_emod_of_nonneg (by omega)
 have T3 : (a * b).tmod m = a * b % m := Int.tmod_eq_emod_of_nonneg (by omega)
 by_cases h6 : op = 6
 ·subst h6
  go_enter Try.func90, Try.ntmps90
  go_wp2_with fail
  go_ret
  exact ⟨by unfold twoI; simp, Below.refl _ _⟩
 have n6 : (op == 6) = false := beq_false_of_ne h6
 by_cases h7 : op = 7
 ·subst h7
  go_enter Try.func90, Try.ntmps90
  go_wp2_with fail
  go_ret
  exact ⟨by unfold twoI; simp, Below.refl _ _⟩
 have n7 : (op == 7) = false := beq_false_of_ne h7
 by_cases h8 : op = 8
 ·subst h8
  go_enter Try.func90, Try.ntmps90
  go_wp2_with fail
  go_ret
  exact ⟨by unfold twoI; simp, Below.refl _ _⟩
 have n8 : (op == 8) = false := beq_false_of_ne h8
 by_cases h9 : op = 9
 ·subst h9
  go_enter Try.func90, Try.ntmps90
  go_wp2_with (go_at_call 89; refine (HT.out _ _).mono ?_; rintro e w2 ⟨rfl, hb2⟩; have HB2 := Lib.hid hb2; clear hb2)
  go_ret
  exact ⟨rfl, HB2.out⟩
 have n9 : (op == 9) = false := beq_false_of_ne h9
 by_cases h10 : op = 10
 ·subst h10
  go_enter Try.func90, Try.ntmps90
  go_wp2_with (go_at_call 89; refine (HT.out _ _).mono ?_; rintro e w2 ⟨rfl, hb2⟩; have HB2 := Lib.hid hb2; clear hb2)
  go_ret
  exact ⟨rfl, HB2.out⟩
 have n10 : (op == 10) = false := beq_false_of_ne h10
 by_cases h11 : op = 11
 ·subst h11
  go_enter Try.func90, Try.ntmps90
  go_wp2_with (go_at_call 89; refine (HT.out _ _).mono ?_; rintro e w2 ⟨rfl, hb2⟩; have HB2 := Lib.hid hb2; clear hb2)
  go_ret
  exact ⟨rfl, HB2.out⟩
 have n11 : (op == 11) = false := beq_false_of_ne h11
 by_cases h12 : op = 12
 ·subst h12
  go_enter Try.func90, Try.ntmps90
  go_wp2_with (go_at_call 89; refine (HT.out _ _).mono ?_; rintro e w2 ⟨rfl, hb2⟩; have HB2 := Lib.hid hb2; clear hb2)
  go_ret
  exact ⟨rfl, HB2.out⟩
 have n12 : (op == 12) = false := beq_false_of_ne h12
 by_cases h13 : op = 13
 ·subst h13
  by_cases ha : a = 0
  ·subst ha
   go_enter Try.func90, Try.ntmps90
   go_wp2_with (go_at_call 89; refine (HT.out _ _).mono ?_; rintro e w2 ⟨rfl, hb2⟩; have HB2 := Lib.hid hb2; clear hb2)
   go_ret
   exact ⟨rfl, HB2.out⟩
  ·have na : (a != 0) = true := by simpa using ha
   have E : twoI 13 a b m = truI (b != 0) := by unfold twoI; simp [na]
   rw [E]
   go_enter Try.func90, Try.ntmps90
   go_wp2_with (go_at_call 89; refine (HT.out _ _).mono ?_; rintro e w2 ⟨rfl, hb2⟩; have HB2 := Lib.hid hb2; clear hb2)
   go_ret
   exact ⟨rfl, HB2.out⟩
 have n13 : (op == 13) = false := beq_false_of_ne h13
 by_cases ha : a = 0
 ·subst ha
  have E : twoI op 0 b m = truI (b != 0) := by unfold twoI; simp [*]
  rw [E]
  clear E
  go_enter Try.func90, Try.ntmps90
  go_wp2_with (go_at_call 89; refine (HT.out _ _).mono ?_; rintro e w2 ⟨rfl, hb2⟩; have HB2 := Lib.hid hb2; clear hb2)
  go_ret
  exact ⟨rfl, HB2.out⟩
 ·have na : (a != 0) = true := by simpa using ha
  have E : twoI op a b m = truI true := by unfold twoI; simp [*]
  rw [E]
  clear E
  go_enter Try.func90, Try.ntmps90
  go_wp2_with (go_at_call 89; refine (HT.out _ _).mono ?_; rintro e w2 ⟨rfl, hb2⟩; have HB2 := Lib.hid hb2; clear hb2)
  go_ret
  exact ⟨rfl, HB2.out⟩
end Go.Proofs.Ytlhpjfnfemebdaa
