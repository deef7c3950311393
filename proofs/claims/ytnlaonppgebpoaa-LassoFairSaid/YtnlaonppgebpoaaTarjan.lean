/-
  Tarjan's search, step by step: no program in sight. Tarjan's search: an edge followed, a node left, a part made: no program in sight. Tarjan's search: a part made: no program in sight.
-/
import Derived.Test.YtnlaonppgebpoaaBase
import Derived.Test.YtnlaonppgebpoaaRBuild
namespace Go.Proofs.Ytnlaonppgebpoaa

/-- paths -/
inductive Pth (E : Nat → Nat → Prop) : Nat → Nat → Prop
  | refl (i : Nat) : Pth E i i
  | step {i j k : Nat} : Pth E i j → E j k → Pth E i k
theorem Pth.trans {E : Nat → Nat → Prop} {i j k : Nat} (h : Pth E i j) (h2 : Pth E j k) : Pth E i k := by
  induction h2 with
  | refl => exact h
  | step _ e ih => exact .step ih e
theorem Pth.one {E : Nat → Nat → Prop} {i j : Nat} (h : E i j) : Pth E i j := .step (.refl i) h

/-- a graph: node x's edges are S x .. S (x + 1) - 1; edge k leads to T k -/
structure TG where
  n : Nat
  S : Nat → Nat
  T : Nat → Nat
  hT : ∀ x k, x < n → S x ≤ k → k < S (x + 1) → T k < n
  hS : ∀ x, x < n → S x ≤ S (x + 1)
def TG.E (G : TG) (x y : Nat) : Prop := x < G.n ∧ ∃ k, G.S x ≤ k ∧ k < G.S (x + 1) ∧ G.T k = y

/-- the search's state; the tops of both stacks stand first -/
structure TS where
  num : Nat → Int
  low : Nat → Int
  on : Nat → Bool
  nodes : List Nat
  part : Nat → Int
  parts : Nat
  calls : List (Nat × Nat)
  seen : Nat
/-- edge k of x has been followed -/
def Proc (G : TG) (s : TS) (x k : Nat) : Prop := G.S x ≤ k ∧ k < G.S (x + 1) ∧ ∀ c ∈ s.calls, c.1 = x → k < c.2

structure TInv (G : TG) (s : TS) : Prop where
  numLt : ∀ x, s.num x = -1 ∨ (0 ≤ s.num x ∧ s.num x < s.seen ∧ x < G.n)
  numInj : ∀ x y, 0 ≤ s.num x → s.num x = s.num y → x = y
  onNodes : ∀ x, s.on x = true ↔ x ∈ s.nodes
  sorted : s.nodes.Pairwise (fun a b => s.num b < s.num a)
  onSeen : ∀ x, s.on x = true → 0 ≤ s.num x
  callsOn : ∀ c ∈ s.calls, s.on c.1 = true
  csorted : s.calls.Pairwise (fun a b => s.num b.1 < s.num a.1)
  next : ∀ c ∈ s.calls, G.S c.1 ≤ c.2 ∧ c.2 ≤ G.S (c.1 + 1)
  chain : ∀ c ∈ s.calls, ∀ x, s.on x = true → s.num c.1 ≤ s.num x → Pth G.E c.1 x
  shut : ∀ x y, 0 ≤ s.num x → s.on x = false → G.E x y → 0 ≤ s.num y ∧ s.on y = false
  proc : ∀ x k, s.on x = true → Proc G s x k → 0 ≤ s.num (G.T k)
  lowLe : ∀ x, s.on x = true → s.low x ≤ s.num x
  lowIs : ∀ x, s.on x = true → ∃ y, s.on y = true ∧ s.num y = s.low x ∧ Pth G.E x y
  lowLt : ∀ x, s.on x = true → (∀ c ∈ s.calls, c.1 ≠ x) → s.low x < s.num x
  lowAll : ∀ c ∈ s.calls, ∀ x, s.on x = true → s.num c.1 ≤ s.num x → (∀ c' ∈ s.calls, s.num c'.1 ≤ s.num x → s.num c'.1 ≤ s.num c.1) → ∀ k, Proc G s x k → s.on (G.T k) = true → s.low c.1 ≤ s.num (G.T k)
  bottom : ∀ x, s.on x = true → ∃ c ∈ s.calls, s.num c.1 ≤ s.num x
  partLt : ∀ x, 0 ≤ s.num x → s.on x = false → 0 ≤ s.part x ∧ s.part x < s.parts
  partEq : ∀ x y, 0 ≤ s.num x → s.on x = false → 0 ≤ s.num y → s.on y = false → (s.part x = s.part y ↔ Pth G.E x y ∧ Pth G.E y x)

def seeS (G : TG) (s : TS) (x : Nat) : TS :=
  { s with num := upd s.num x s.seen, low := upd s.low x s.seen, on := upd s.on x true, nodes := x :: s.nodes, calls := (x, G.S x) :: s.calls, seen := s.seen + 1 }

theorem TInv.seenOf {G : TG} {s : TS} (h : TInv G s) {x : Nat} (hx : 0 ≤ s.num x) : s.num x < s.seen ∧ x < G.n := by
  rcases h.numLt x with e | ⟨_, a, b⟩
  · omega
  · exact ⟨a, b⟩

/-- a new node -/
theorem TInv.see {G : TG} {s : TS} (h : TInv G s) {x : Nat} (hx : s.num x = -1) (hn : x < G.n)
    (hp : ∀ c ∈ s.calls, Pth G.E c.1 x) : TInv G (seeS G s x) := by
  have hon : s.on x = false := by
    cases e : s.on x
    · rfl
    · have := h.onSeen x e; omega
  have hne : ∀ y, 0 ≤ s.num y → y ≠ x := fun y hy e => by subst e; omega
  have hon2 : ∀ y, s.on y = true → y ≠ x := fun y hy => hne y (h.onSeen y hy)
  have n1 : upd s.num x (s.seen : Int) x = s.seen := upd_same _ _ _
  have n2 : ∀ y, y ≠ x → upd s.num x (s.seen : Int) y = s.num y := fun y hy => upd_other _ _ _ _ hy
  have l2 : ∀ y, y ≠ x → upd s.low x (s.seen : Int) y = s.low y := fun y hy => upd_other _ _ _ _ hy
  have l1 : upd s.low x (s.seen : Int) x = s.seen := upd_same _ _ _
  have o1 : upd s.on x true x = true := upd_same _ _ _
  have o2 : ∀ y, y ≠ x → upd s.on x true y = s.on y := fun y hy => upd_other _ _ _ _ hy
  have hcx : ∀ c ∈ s.calls, c.1 ≠ x := fun c hc => hon2 _ (h.callsOn c hc)
  have hpr : ∀ y k, y ≠ x → Proc G (seeS G s x) y k → Proc G s y k := fun y k hy ⟨a, b, c⟩ => ⟨a, b, fun d hd e => c d (List.mem_cons_of_mem _ hd) e⟩
  have hpx : ∀ k, ¬ Proc G (seeS G s x) x k := fun k ⟨a, _, c⟩ => by
    have := c (x, G.S x) (List.mem_cons_self ..) rfl
    simp only at this
    omega
  have hlt : ∀ y, s.on y = true → s.num y < s.seen := fun y hy => (h.seenOf (h.onSeen y hy)).1
  refine ⟨?_, ?_, ?_, ?_, ?_, ?_, ?_, ?_, ?_, ?_, ?_, ?_, ?_, ?_, ?_, ?_, ?_, ?_⟩
  · intro y
    show upd s.num x _ y = -1 ∨ (0 ≤ upd s.num x _ y ∧ upd s.num x _ y < ((s.seen + 1 : Nat) : Int) ∧ y < G.n)
    by_cases e : y = x
    · subst e; rw [n1]; right; exact ⟨by omega, by omega, hn⟩
    · rw [n2 y e]
      rcases h.numLt y with q | ⟨a, b, c⟩
      · exact .inl q
      · exact .inr ⟨a, by omega, c⟩
  · intro y z
    show 0 ≤ upd s.num x _ y → upd s.num x _ y = upd s.num x _ z → y = z
    by_cases ey : y = x
    · by_cases ez : z = x
      · intro _ _; rw [ey, ez]
      · rw [ey, n1, n2 z ez]
        intro _ e
        rcases h.numLt z with q | ⟨a, b, c⟩ <;> omega
    · by_cases ez : z = x
      · rw [ez, n1, n2 y ey]
        intro h0 e
        rcases h.numLt y with q | ⟨a, b, c⟩ <;> omega
      · rw [n2 y ey, n2 z ez]; exact h.numInj y z
  · intro y
    show upd s.on x true y = true ↔ y ∈ x :: s.nodes
    by_cases e : y = x
    · subst e; rw [o1]; simp
    · rw [o2 y e, h.onNodes y]; simp [e]
  · show (x :: s.nodes).Pairwise _
    refine List.pairwise_cons.2 ⟨?_, ?_⟩
    · intro y hy
      have hy' := (h.onNodes y).2 hy
      show upd s.num x _ y < upd s.num x _ x
      rw [n1, n2 y (hon2 y hy')]; exact hlt y hy'
    · refine h.sorted.imp_of_mem ?_
      intro a b ha hb hab
      show upd s.num x _ b < upd s.num x _ a
      rw [n2 b (hon2 b ((h.onNodes b).2 hb)), n2 a (hon2 a ((h.onNodes a).2 ha))]; exact hab
  · intro y
    show upd s.on x true y = true → 0 ≤ upd s.num x _ y
    by_cases e : y = x
    · subst e; rw [n1]; intro _; omega
    · rw [o2 y e, n2 y e]; exact h.onSeen y
  · intro c hc
    show upd s.on x true c.1 = true
    rcases List.mem_cons.1 hc with rfl | hc
    · exact o1
    · rw [o2 _ (hcx c hc)]; exact h.callsOn c hc
  · show ((x, G.S x) :: s.calls).Pairwise _
    refine List.pairwise_cons.2 ⟨?_, ?_⟩
    · intro c hc
      show upd s.num x _ c.1 < upd s.num x _ x
      rw [n1, n2 _ (hcx c hc)]; exact hlt _ (h.callsOn c hc)
    · refine h.csorted.imp_of_mem ?_
      intro a b ha hb hab
      show upd s.num x _ b.1 < upd s.num x _ a.1
      rw [n2 _ (hcx b hb), n2 _ (hcx a ha)]; exact hab
  · intro c hc
    rcases List.mem_cons.1 hc with rfl | hc
    · exact ⟨Nat.le_refl _, G.hS x hn⟩
    · exact h.next c hc
  · intro c hc y
    show upd s.on x true y = true → upd s.num x _ c.1 ≤ upd s.num x _ y → Pth G.E c.1 y
    rcases List.mem_cons.1 hc with rfl | hc
    · by_cases e : y = x
      · subst e; intro _ _; exact .refl _
      · rw [o2 y e, n1, n2 y e]
        intro hy hle
        have := hlt y hy; omega
    · have hpc := hp c hc
      by_cases e : y = x
      · rw [e]; intro _ _; exact hpc
      · rw [o2 y e, n2 _ (hcx c hc), n2 y e]; exact h.chain c hc y
  · intro y z
    show 0 ≤ upd s.num x _ y → upd s.on x true y = false → G.E y z → 0 ≤ upd s.num x _ z ∧ upd s.on x true z = false
    by_cases e : y = x
    · subst e; rw [o1]; intro _ h'; cases h'
    · rw [n2 y e, o2 y e]
      intro a b c
      obtain ⟨p, q⟩ := h.shut y z a b c
      have := hne z p
      rw [n2 z this, o2 z this]; exact ⟨p, q⟩
  · intro y k
    show upd s.on x true y = true → Proc G (seeS G s x) y k → 0 ≤ upd s.num x _ (G.T k)
    by_cases e : y = x
    · subst e; intro _ hk; exact (hpx k hk).elim
    · rw [o2 y e]
      intro hy hk
      have := h.proc y k hy (hpr y k e hk)
      rw [n2 _ (hne _ this)]; exact this
  · intro y
    show upd s.on x true y = true → upd s.low x _ y ≤ upd s.num x _ y
    by_cases e : y = x
    · subst e; rw [l1, n1]; intro _; exact Int.le_refl _
    · rw [o2 y e, l2 y e, n2 y e]; exact h.lowLe y
  · intro y
    show upd s.on x true y = true → ∃ z, upd s.on x true z = true ∧ upd s.num x _ z = upd s.low x _ y ∧ Pth G.E y z
    by_cases e : y = x
    · subst e; intro _; exact ⟨y, o1, by rw [n1, l1], .refl _⟩
    · rw [o2 y e]
      intro hy
      obtain ⟨z, a, b, c⟩ := h.lowIs y hy
      exact ⟨z, by rw [o2 z (hon2 z a)]; exact a, by rw [n2 z (hon2 z a), l2 y e]; exact b, c⟩
  · intro y
    show upd s.on x true y = true → (∀ c ∈ (x, G.S x) :: s.calls, c.1 ≠ y) → upd s.low x _ y < upd s.num x _ y
    by_cases e : y = x
    · subst e; intro _ hc; exact (hc _ (List.mem_cons_self ..) rfl).elim
    · rw [o2 y e, l2 y e, n2 y e]
      intro hy hc
      exact h.lowLt y hy (fun c hc' => hc c (List.mem_cons_of_mem _ hc'))
  · intro c hc y
    show upd s.on x true y = true → upd s.num x _ c.1 ≤ upd s.num x _ y → (∀ c' ∈ (x, G.S x) :: s.calls, upd s.num x _ c'.1 ≤ upd s.num x _ y → upd s.num x _ c'.1 ≤ upd s.num x _ c.1) → ∀ k, Proc G (seeS G s x) y k → upd s.on x true (G.T k) = true → upd s.low x _ c.1 ≤ upd s.num x _ (G.T k)
    by_cases e : y = x
    · subst e; intro _ _ _ k hk; exact (hpx k hk).elim
    · rw [o2 y e, n2 y e]
      intro hy hle hlast k hk hot
      have hk' := hpr y k e hk
      have hs := h.proc y k hy hk'
      have htx := hne _ hs
      rw [o2 _ htx] at hot
      rw [n2 _ htx]
      rcases List.mem_cons.1 hc with rfl | hc
      · rw [n1] at hle
        have := hlt y hy; omega
      · rw [n2 _ (hcx c hc)] at hle
        rw [l2 _ (hcx c hc)]
        refine h.lowAll c hc y hy hle (fun c' hc' hle' => ?_) k hk' hot
        have := hlast c' (List.mem_cons_of_mem _ hc')
        rw [n2 _ (hcx c' hc'), n2 _ (hcx c hc)] at this
        exact this hle'
  · intro y
    show upd s.on x true y = true → ∃ c ∈ (x, G.S x) :: s.calls, upd s.num x _ c.1 ≤ upd s.num x _ y
    by_cases e : y = x
    · subst e; intro _; exact ⟨_, List.mem_cons_self .., Int.le_refl _⟩
    · rw [o2 y e, n2 y e]
      intro hy
      obtain ⟨c, hc, hle⟩ := h.bottom y hy
      exact ⟨c, List.mem_cons_of_mem _ hc, by rw [n2 _ (hcx c hc)]; exact hle⟩
  · intro y
    show 0 ≤ upd s.num x _ y → upd s.on x true y = false → 0 ≤ s.part y ∧ s.part y < s.parts
    by_cases e : y = x
    · subst e; rw [o1]; intro _ h'; cases h'
    · rw [n2 y e, o2 y e]; exact h.partLt y
  · intro y z
    show 0 ≤ upd s.num x _ y → upd s.on x true y = false → 0 ≤ upd s.num x _ z → upd s.on x true z = false → _
    by_cases ey : y = x
    · subst ey; rw [o1]; intro _ h'; cases h'
    · by_cases ez : z = x
      · subst ez; rw [o1]; intro _ _ _ h'; cases h'
      · rw [n2 y ey, o2 y ey, n2 z ez, o2 z ez]; exact h.partEq y z
end Go.Proofs.Ytnlaonppgebpoaa

namespace Go.Proofs.Ytnlaonppgebpoaa

/-- low of x made smaller by a node that it reaches -/
theorem TInv.lowUpd {G : TG} {s : TS} (h : TInv G s) {x y : Nat} (hx : ∃ c ∈ s.calls, c.1 = x) (hy : s.on y = true) (hp : Pth G.E x y) : TInv G { s with low := upd s.low x (min (s.low x) (s.num y)) } := by
  obtain ⟨c0, hc0, hcx⟩ := hx
  have hxo : s.on x = true := by rw [← hcx]; exact h.callsOn c0 hc0
  have l1 : upd s.low x (min (s.low x) (s.num y)) x = min (s.low x) (s.num y) := upd_same _ _ _
  have l2 : ∀ z, z ≠ x → upd s.low x (min (s.low x) (s.num y)) z = s.low z := fun z hz => upd_other _ _ _ _ hz
  have l3 : ∀ z, upd s.low x (min (s.low x) (s.num y)) z ≤ s.low z := fun z => by
    by_cases e : z = x
    · rw [e, l1]; omega
    · rw [l2 z e]; exact Int.le_refl _
  refine ⟨h.numLt, h.numInj, h.onNodes, h.sorted, h.onSeen, h.callsOn, h.csorted, h.next, h.chain, h.shut, h.proc, ?_, ?_, ?_, ?_, h.bottom, h.partLt, h.partEq⟩
  · intro z hz; exact Int.le_trans (l3 z) (h.lowLe z hz)
  · intro z hz
    show ∃ q, s.on q = true ∧ s.num q = upd s.low x _ z ∧ Pth G.E z q
    by_cases e : z = x
    · rw [e, l1]
      obtain ⟨q, a, b, c⟩ := h.lowIs x hxo
      by_cases hle : s.low x ≤ s.num y
      · exact ⟨q, a, by rw [b]; omega, c⟩
      · exact ⟨y, hy, by omega, hp⟩
    · rw [l2 z e]; exact h.lowIs z hz
  · intro z hz hc
    exact Int.lt_of_le_of_lt (l3 z) (h.lowLt z hz hc)
  · intro c hc z hz hle hl k hk ho
    exact Int.le_trans (l3 _) (h.lowAll c hc z hz hle hl k hk ho)

/-- the next edge of one of those that are looked at -/
theorem TInv.advance {G : TG} {s : TS} (h : TInv G s) {pre rest : List (Nat × Nat)} {i nx : Nat} (hc : s.calls = pre ++ (i, nx) :: rest) (hlt : nx < G.S (i + 1)) (hs : 0 ≤ s.num (G.T nx))
    (ho : s.on (G.T nx) = true → s.low i ≤ s.num (G.T nx)) : TInv G { s with calls := pre ++ (i, nx + 1) :: rest } := by
  have hmem : (i, nx) ∈ s.calls := by rw [hc]; simp
  have hback : ∀ c ∈ pre ++ (i, nx + 1) :: rest, c = (i, nx + 1) ∨ c ∈ s.calls := by
    intro c hcm
    rw [hc]
    rcases List.mem_append.1 hcm with q | q
    · exact .inr (List.mem_append.2 (.inl q))
    · rcases List.mem_cons.1 q with rfl | q
      · exact .inl rfl
      · exact .inr (List.mem_append.2 (.inr (List.mem_cons_of_mem _ q)))
  have hfst : ∀ c ∈ pre ++ (i, nx + 1) :: rest, ∃ c' ∈ s.calls, c'.1 = c.1 := by
    intro c hcm
    rcases hback c hcm with rfl | q
    · exact ⟨_, hmem, rfl⟩
    · exact ⟨c, q, rfl⟩
  have hfor : ∀ c ∈ s.calls, ∃ c' ∈ pre ++ (i, nx + 1) :: rest, c'.1 = c.1 ∧ (c'.2 = c.2 ∨ c = (i, nx) ∧ c' = (i, nx + 1)) := by
    intro c hcm
    rw [hc] at hcm
    rcases List.mem_append.1 hcm with q | q
    · exact ⟨c, List.mem_append.2 (.inl q), rfl, .inl rfl⟩
    · rcases List.mem_cons.1 q with rfl | q
      · exact ⟨(i, nx + 1), by simp, rfl, .inr ⟨rfl, rfl⟩⟩
      · exact ⟨c, List.mem_append.2 (.inr (List.mem_cons_of_mem _ q)), rfl, .inl rfl⟩
  have hpr : ∀ x k, Proc G { s with calls := pre ++ (i, nx + 1) :: rest } x k → Proc G s x k ∨ (x = i ∧ k = nx) := by
    intro x k ⟨a, b, c⟩
    by_cases e : x = i ∧ k = nx
    · exact .inr e
    · left
      refine ⟨a, b, fun d hd hdx => ?_⟩
      obtain ⟨d', hd', e1, e2⟩ := hfor d hd
      have := c d' hd' (by rw [e1]; exact hdx)
      rcases e2 with e2 | ⟨e2, e3⟩
      · omega
      · rw [e3] at this
        rw [e2] at hdx ⊢
        simp only at this hdx ⊢
        have : k ≠ nx := fun e4 => e ⟨hdx.symm, e4⟩
        omega
  refine ⟨h.numLt, h.numInj, h.onNodes, h.sorted, h.onSeen, ?_, ?_, ?_, ?_, h.shut, ?_, h.lowLe, h.lowIs, ?_, ?_, ?_, h.partLt, h.partEq⟩
  · intro c hcm
    obtain ⟨c', a, b⟩ := hfst c hcm
    rw [← b]; exact h.callsOn c' a
  · have hsrt := h.csorted
    rw [hc] at hsrt
    show (pre ++ (i, nx + 1) :: rest).Pairwise _
    rw [List.pairwise_append] at hsrt ⊢
    obtain ⟨a, b, c⟩ := hsrt
    rw [List.pairwise_cons] at b
    refine ⟨a, List.pairwise_cons.2 ⟨b.1, b.2⟩, fun x hx y hy => ?_⟩
    rcases List.mem_cons.1 hy with rfl | hy
    · exact c x hx (i, nx) (List.mem_cons_self ..)
    · exact c x hx y (List.mem_cons_of_mem _ hy)
  · intro c hcm
    rcases hback c hcm with rfl | q
    · have := h.next _ hmem
      simp only at this ⊢
      omega
    · exact h.next c q
  · intro c hcm x hx hle
    obtain ⟨c', a, b⟩ := hfst c hcm
    rw [← b] at hle ⊢
    exact h.chain c' a x hx hle
  · intro x k hx hk
    rcases hpr x k hk with q | ⟨rfl, rfl⟩
    · exact h.proc x k hx q
    · exact hs
  · intro x hx hcm
    refine h.lowLt x hx (fun c hc' e => ?_)
    obtain ⟨c', a, b, -⟩ := hfor c hc'
    exact hcm c' a (by rw [b]; exact e)
  · intro c hcm x hx hle hl k hk hon
    obtain ⟨c', a, b⟩ := hfst c hcm
    rw [← b] at hle ⊢
    rcases hpr x k hk with q | ⟨e1, e2⟩
    · refine h.lowAll c' a x hx hle (fun d hd hdle => ?_) k q hon
      obtain ⟨d', f, g, -⟩ := hfor d hd
      rw [← g] at hdle ⊢
      rw [b]; exact hl d' f hdle
    · subst e1 e2
      have h1 : s.num x ≤ s.num c.1 := hl (x, k + 1) (by simp) (Int.le_refl _)
      have h2 : s.num c'.1 ≤ s.num x := hle
      rw [← b] at h1
      have : c'.1 = x := h.numInj _ _ (h.onSeen _ (h.callsOn c' a)) (by omega)
      rw [this]; exact ho hon
  · intro x hx
    obtain ⟨c, hc', hle⟩ := h.bottom x hx
    obtain ⟨c', a, b, -⟩ := hfor c hc'
    exact ⟨c', a, by rw [b]; exact hle⟩

/-- every node on the stack reaches one that is looked at, seen no later -/
theorem TInv.reachGray {G : TG} {s : TS} (h : TInv G s) : ∀ (m : Nat) (x : Nat), s.on x = true → (s.num x).toNat = m → ∃ c ∈ s.calls, s.num c.1 ≤ s.num x ∧ Pth G.E x c.1 := by
  intro m
  induction m using Nat.strongRecOn with
  | _ m ih =>
    intro x hx hm
    by_cases hc : ∃ c ∈ s.calls, c.1 = x
    · obtain ⟨c, hc, e⟩ := hc
      exact ⟨c, hc, by rw [e]; exact Int.le_refl _, by rw [e]; exact .refl _⟩
    · have hl := h.lowLt x hx (fun c hc' e => hc ⟨c, hc', e⟩)
      obtain ⟨y, a, b, p⟩ := h.lowIs x hx
      have h0 := h.onSeen y a
      have h1 := h.onSeen x hx
      obtain ⟨c, hc', hle, hp⟩ := ih (s.num y).toNat (by omega) y a rfl
      exact ⟨c, hc', by omega, p.trans hp⟩

/-- a node left, its part not yet known -/
theorem TInv.pop {G : TG} {s : TS} (h : TInv G s) {i nx u nu : Nat} {rest : List (Nat × Nat)} (hc : s.calls = (i, nx) :: (u, nu) :: rest) (hnx : nx = G.S (i + 1)) (hl : s.low i < s.num i) (hlu : s.low u ≤ s.low i) :
    TInv G { s with calls := (u, nu) :: rest } := by
  have hsub : ∀ c ∈ (u, nu) :: rest, c ∈ s.calls := fun c hcm => by rw [hc]; exact List.mem_cons_of_mem _ hcm
  have hi : (i, nx) ∈ s.calls := by rw [hc]; exact List.mem_cons_self ..
  have hu : (u, nu) ∈ s.calls := hsub _ (List.mem_cons_self ..)
  have hsrt := h.csorted
  rw [hc, List.pairwise_cons, List.pairwise_cons] at hsrt
  have hui : s.num u < s.num i := hsrt.1 (u, nu) (List.mem_cons_self ..)
  have hpr : ∀ x k, Proc G { s with calls := (u, nu) :: rest } x k → Proc G s x k := by
    intro x k ⟨a, b, c⟩
    refine ⟨a, b, fun d hd e => ?_⟩
    rw [hc] at hd
    rcases List.mem_cons.1 hd with rfl | hd
    · simp only at e ⊢; subst e; omega
    · exact c d hd e
  refine ⟨h.numLt, h.numInj, h.onNodes, h.sorted, h.onSeen, fun c hcm => h.callsOn c (hsub c hcm), List.pairwise_cons.2 hsrt.2, fun c hcm => h.next c (hsub c hcm), fun c hcm => h.chain c (hsub c hcm), h.shut, fun x k hx hk => h.proc x k hx (hpr x k hk), h.lowLe, h.lowIs, ?_, ?_, ?_, h.partLt, h.partEq⟩
  · intro x hx hcm
    by_cases e : i = x
    · subst e; exact hl
    · refine h.lowLt x hx (fun c hc' e2 => ?_)
      rw [hc] at hc'
      rcases List.mem_cons.1 hc' with rfl | hc'
      · exact e e2
      · exact hcm c hc' e2
  · intro c hcm x hx hle hlast k hk hon
    have hk' := hpr x k hk
    by_cases e : s.num i ≤ s.num x
    · have h1 := hlast (u, nu) (List.mem_cons_self ..) (by simp only; omega)
      simp only at h1
      have hcu : s.num c.1 ≤ s.num u := by
        rcases List.mem_cons.1 hcm with rfl | hcm
        · exact Int.le_refl _
        · exact Int.le_of_lt (hsrt.2.1 c hcm)
      have : c.1 = u := h.numInj _ _ (h.onSeen _ (h.callsOn c (hsub c hcm))) (by omega)
      rw [this]
      have h2 := h.lowAll (i, nx) hi x hx e (fun c' hc' _ => by
        rw [hc] at hc'
        rcases List.mem_cons.1 hc' with rfl | hc'
        · exact Int.le_refl _
        · exact Int.le_of_lt (hsrt.1 c' hc')) k hk' hon
      simp only at h2
      exact Int.le_trans hlu h2
    · refine h.lowAll c (hsub c hcm) x hx hle (fun c' hc' hle' => ?_) k hk' hon
      rw [hc] at hc'
      rcases List.mem_cons.1 hc' with rfl | hc'
      · simp only at hle'; omega
      · exact hlast c' hc' hle'
  · intro x hx
    obtain ⟨c, hc', hle⟩ := h.bottom x hx
    rw [hc] at hc'
    rcases List.mem_cons.1 hc' with rfl | hc'
    · exact ⟨(u, nu), List.mem_cons_self .., by simp only at hle ⊢; omega⟩
    · exact ⟨c, hc', hle⟩
/-- the last one is no one else's: it is its part's first -/
theorem TInv.last {G : TG} {s : TS} (h : TInv G s) {i nx : Nat} (hc : s.calls = [(i, nx)]) : s.low i = s.num i := by
  have hi : (i, nx) ∈ s.calls := by rw [hc]; exact List.mem_cons_self ..
  have ho := h.callsOn _ hi
  have h1 := h.lowLe i ho
  obtain ⟨y, a, b, -⟩ := h.lowIs i ho
  obtain ⟨c, hc', hle⟩ := h.bottom y a
  rw [hc] at hc'
  obtain rfl : c = (i, nx) := by simpa using hc'
  simp only at hle
  omega
end Go.Proofs.Ytnlaonppgebpoaa

namespace Go.Proofs.Ytnlaonppgebpoaa

/-- all nodes from i up become part number 'parts' -/
def closeS (s : TS) (i : Nat) (suf : List Nat) (rest : List (Nat × Nat)) : TS :=
  { s with on := fun x => s.on x && decide (s.num x < s.num i), nodes := suf, part := fun x => if s.on x = true ∧ s.num i ≤ s.num x then (s.parts : Int) else s.part x, parts := s.parts + 1, calls := rest }

theorem TInv.close {G : TG} {s : TS} (h : TInv G s) {i nx : Nat} {rest : List (Nat × Nat)} (hc : s.calls = (i, nx) :: rest) (hnx : nx = G.S (i + 1)) (hl : s.low i = s.num i) {pre suf : List Nat} (hn : s.nodes = pre ++ i :: suf) :
    TInv G (closeS s i suf rest) := by
  have hi : (i, nx) ∈ s.calls := by rw [hc]; exact List.mem_cons_self ..
  have hio := h.callsOn _ hi
  have hi0 := h.onSeen i hio
  have hsub : ∀ c ∈ rest, c ∈ s.calls := fun c hcm => by rw [hc]; exact List.mem_cons_of_mem _ hcm
  have hsrt := h.csorted
  rw [hc, List.pairwise_cons] at hsrt
  have hns := h.sorted
  rw [hn, List.pairwise_append, List.pairwise_cons] at hns
  -- on below i: the rest of the stack
  have hon' : ∀ x, (s.on x && decide (s.num x < s.num i)) = true ↔ s.on x = true ∧ s.num x < s.num i := fun x => by simp
  have hoff : ∀ x, (s.on x && decide (s.num x < s.num i)) = false ↔ (s.on x = false ∨ s.num i ≤ s.num x) := fun x => by
    cases s.on x <;> simp
  have hD : ∀ x, s.on x = true → s.num i ≤ s.num x → Pth G.E i x ∧ Pth G.E x i := by
    intro x hx hle
    refine ⟨h.chain _ hi x hx hle, ?_⟩
    obtain ⟨c, hc', hle', hp⟩ := h.reachGray _ x hx rfl
    refine hp.trans ?_
    have : s.num c.1 ≤ s.num i := by
      rw [hc] at hc'
      rcases List.mem_cons.1 hc' with rfl | hc'
      · exact Int.le_refl _
      · exact Int.le_of_lt (hsrt.1 c hc')
    exact h.chain c hc' i hio this
  have hall : ∀ x k, s.on x = true → s.num i ≤ s.num x → G.S x ≤ k → k < G.S (x + 1) → Proc G s x k := by
    intro x k hx hle a b
    refine ⟨a, b, fun c hc' e => ?_⟩
    rw [hc] at hc'
    rcases List.mem_cons.1 hc' with rfl | hc'
    · simp only at e ⊢; subst e; omega
    · have := hsrt.1 c hc'
      rw [e] at this
      simp only at this; omega
  have hlastI : ∀ x, ∀ c' ∈ s.calls, s.num c'.1 ≤ s.num x → s.num c'.1 ≤ s.num i := by
    intro x c' hc' _
    rw [hc] at hc'
    rcases List.mem_cons.1 hc' with rfl | hc'
    · exact Int.le_refl _
    · exact Int.le_of_lt (hsrt.1 c' hc')
  have hshut : ∀ x y, 0 ≤ s.num x → (s.on x = false ∨ s.num i ≤ s.num x) → G.E x y → 0 ≤ s.num y ∧ (s.on y = false ∨ s.num i ≤ s.num y) := by
    intro x y h0 hx hE
    rcases hx with hx | hx
    · obtain ⟨a, b⟩ := h.shut x y h0 hx hE
      exact ⟨a, .inl b⟩
    · cases hxo : s.on x
      · obtain ⟨a, b⟩ := h.shut x y h0 hxo hE
        exact ⟨a, .inl b⟩
      · obtain ⟨-, k, a, b, rfl⟩ := hE
        have hk := hall x k hxo hx a b
        refine ⟨h.proc x k hxo hk, ?_⟩
        cases hyo : s.on (G.T k)
        · exact .inl rfl
        · right
          have := h.lowAll (i, nx) hi x hxo hx (fun c' hc' hle => hlastI x c' hc' hle) k hk hyo
          simp only at this
          omega
  -- what is shut stays shut along paths
  have hshutP : ∀ x y, 0 ≤ s.num x → s.on x = false → Pth G.E x y → 0 ≤ s.num y ∧ s.on y = false := by
    intro x y h0 hx hp
    induction hp with
    | refl => exact ⟨h0, hx⟩
    | step _ e ih => exact h.shut _ _ ih.1 ih.2 e
  have hpr : ∀ x k, s.on x = true → s.num x < s.num i → Proc G (closeS s i suf rest) x k → Proc G s x k := by
    intro x k hx hlt ⟨a, b, c⟩
    refine ⟨a, b, fun d hd e => ?_⟩
    rw [hc] at hd
    rcases List.mem_cons.1 hd with rfl | hd
    · simp only at e; subst e; omega
    · exact c d hd e
  refine ⟨h.numLt, h.numInj, ?_, hns.2.1.2, ?_, ?_, hsrt.2, fun c hcm => h.next c (hsub c hcm), ?_, ?_, ?_, ?_, ?_, ?_, ?_, ?_, ?_, ?_⟩
  · intro x
    show (s.on x && decide (s.num x < s.num i)) = true ↔ x ∈ suf
    rw [hon', h.onNodes, hn]
    constructor
    · rintro ⟨hm, hlt⟩
      rcases List.mem_append.1 hm with q | q
      · have := hns.2.2 x q i (List.mem_cons_self ..); omega
      · rcases List.mem_cons.1 q with rfl | q
        · omega
        · exact q
    · intro q
      exact ⟨List.mem_append.2 (.inr (List.mem_cons_of_mem _ q)), hns.2.1.1 x q⟩
  · intro x hx
    exact h.onSeen x ((hon' x).1 hx).1
  · intro c hcm
    exact (hon' _).2 ⟨h.callsOn c (hsub c hcm), hsrt.1 c hcm⟩
  · intro c hcm x hx hle
    exact h.chain c (hsub c hcm) x ((hon' x).1 hx).1 hle
  · intro x y h0 hx hE
    obtain ⟨a, b⟩ := hshut x y h0 ((hoff x).1 hx) hE
    exact ⟨a, (hoff y).2 b⟩
  · intro x k hx hk
    obtain ⟨hx1, hx2⟩ := (hon' x).1 hx
    exact h.proc x k hx1 (hpr x k hx1 hx2 hk)
  · intro x hx
    exact h.lowLe x ((hon' x).1 hx).1
  · intro x hx
    obtain ⟨hx1, hx2⟩ := (hon' x).1 hx
    obtain ⟨y, a, b, p⟩ := h.lowIs x hx1
    have := h.lowLe x hx1
    exact ⟨y, (hon' y).2 ⟨a, by omega⟩, b, p⟩
  · intro x hx hcm
    obtain ⟨hx1, hx2⟩ := (hon' x).1 hx
    refine h.lowLt x hx1 (fun c hc' e => ?_)
    rw [hc] at hc'
    rcases List.mem_cons.1 hc' with rfl | hc'
    · simp only at e; subst e; omega
    · exact hcm c hc' e
  · intro c hcm x hx hle hlast k hk hon
    obtain ⟨hx1, hx2⟩ := (hon' x).1 hx
    obtain ⟨hy1, -⟩ := (hon' _).1 hon
    refine h.lowAll c (hsub c hcm) x hx1 hle (fun c' hc' hle' => ?_) k (hpr x k hx1 hx2 hk) hy1
    rw [hc] at hc'
    rcases List.mem_cons.1 hc' with rfl | hc'
    · simp only at hle'; omega
    · exact hlast c' hc' hle'
  · intro x hx
    obtain ⟨hx1, hx2⟩ := (hon' x).1 hx
    obtain ⟨c, hc', hle⟩ := h.bottom x hx1
    rw [hc] at hc'
    rcases List.mem_cons.1 hc' with rfl | hc'
    · simp only at hle; omega
    · exact ⟨c, hc', hle⟩
  · intro x h0 hx
    show 0 ≤ (if s.on x = true ∧ s.num i ≤ s.num x then (s.parts : Int) else s.part x) ∧ (if s.on x = true ∧ s.num i ≤ s.num x then (s.parts : Int) else s.part x) < ((s.parts + 1 : Nat) : Int)
    by_cases hd : s.on x = true ∧ s.num i ≤ s.num x
    · rw [if_pos hd]; omega
    · rw [if_neg hd]
      have : s.on x = false := by
        rcases (hoff x).1 hx with q | q
        · exact q
        · cases e : s.on x
          · rfl
          · exact (hd ⟨e, q⟩).elim
      have := h.partLt x h0 this
      omega
  · intro x y hx0 hx hy0 hy
    show (if s.on x = true ∧ s.num i ≤ s.num x then (s.parts : Int) else s.part x) = (if s.on y = true ∧ s.num i ≤ s.num y then (s.parts : Int) else s.part y) ↔ _
    have hsplit : ∀ z, (s.on z && decide (s.num z < s.num i)) = false → ¬ (s.on z = true ∧ s.num i ≤ s.num z) → s.on z = false := by
      intro z hz hd
      rcases (hoff z).1 hz with q | q
      · exact q
      · cases e : s.on z
        · rfl
        · exact (hd ⟨e, q⟩).elim
    by_cases hdx : s.on x = true ∧ s.num i ≤ s.num x
    · rw [if_pos hdx]
      obtain ⟨p1, p2⟩ := hD x hdx.1 hdx.2
      by_cases hdy : s.on y = true ∧ s.num i ≤ s.num y
      · rw [if_pos hdy]
        obtain ⟨p3, p4⟩ := hD y hdy.1 hdy.2
        exact ⟨fun _ => ⟨p2.trans p3, p4.trans p1⟩, fun _ => rfl⟩
      · rw [if_neg hdy]
        have hyo := hsplit y hy hdy
        have hlt := (h.partLt y hy0 hyo).2
        constructor
        · intro e; omega
        · rintro ⟨-, q⟩
          have := (hshutP y x hy0 hyo q).2
          rw [hdx.1] at this; cases this
    · rw [if_neg hdx]
      have hxo := hsplit x hx hdx
      by_cases hdy : s.on y = true ∧ s.num i ≤ s.num y
      · rw [if_pos hdy]
        have hlt := (h.partLt x hx0 hxo).2
        constructor
        · intro e; omega
        · rintro ⟨q, -⟩
          have := (hshutP x y hx0 hxo q).2
          rw [hdy.1] at this; cases this
      · rw [if_neg hdy]
        exact h.partEq x y hx0 hxo hy0 (hsplit y hy hdy)
end Go.Proofs.Ytnlaonppgebpoaa
