/-
  A right graph's edges, node by node: no program in sight.
-/
import Derived.Test.YtnlaonppgebpoaaData
namespace Go.Proofs.Ytnlaonppgebpoaa

def st (g : Gr) (i : Nat) : Nat := (g.S.getD i 0).toNat
def edge (g : Gr) (i k : Nat) : Ed := ((i : Int), g.A.getD k 0, g.T.getD k 0)
/-- node i's first m edges -/
def edsN (g : Gr) (i m : Nat) : List Ed := (List.range' (st g i) m).map (edge g i)
def eds (g : Gr) (i : Nat) : List Ed := edsN g i (st g (i + 1) - st g i)
/-- the edges of m nodes, from a on -/
def span (g : Gr) (a m : Nat) : List Ed := (List.range' a m).flatMap (eds g)

theorem edsN_succ (g : Gr) (i m : Nat) : edsN g i (m + 1) = edsN g i m ++ [edge g i (st g i + m)] := by
  simp [edsN, List.range'_concat]
theorem edsN_len (g : Gr) (i m : Nat) : (edsN g i m).length = m := by simp [edsN]
theorem span_succ (g : Gr) (a m : Nat) : span g a (m + 1) = span g a m ++ eds g (a + m) := by
  simp [span, List.range'_concat]

theorem Rt.mono' {g : Gr} (h : Rt g) {i : Nat} : ∀ j, i ≤ j → j < g.S.length → g.S.getD i 0 ≤ g.S.getD j 0
  | 0, hij, _ => by obtain rfl : i = 0 := by omega
                    exact Int.le_refl _
  | j + 1, hij, hj => by
    by_cases e : i = j + 1
    · rw [e]; exact Int.le_refl _
    · exact Int.le_trans (h.mono' j (by omega) (by omega)) (h.mono j hj)
theorem Rt.st {g : Gr} (h : Rt g) {i : Nat} (hi : i < g.S.length) : g.S.getD i 0 = (st g i : Int) := by
  have := h.mono' (i := 0) i (Nat.zero_le _) hi
  rw [h.first] at this
  unfold Proofs.Ytnlaonppgebpoaa.st; omega
theorem Rt.stLe {g : Gr} (h : Rt g) {i j : Nat} (hij : i ≤ j) (hj : j < g.S.length) : Proofs.Ytnlaonppgebpoaa.st g i ≤ Proofs.Ytnlaonppgebpoaa.st g j := by
  have := h.mono' j hij hj
  rw [h.st hj, h.st (by omega)] at this; omega
theorem Rt.stTop {g : Gr} (h : Rt g) {i : Nat} (hi : i < g.S.length) : Proofs.Ytnlaonppgebpoaa.st g i ≤ g.T.length := by
  have h1 := h.mono' (i := i) (g.S.length - 1) (by omega) (by omega)
  rw [h.last, h.st hi] at h1; omega
theorem span_len {g : Gr} (h : Rt g) (a : Nat) : ∀ m, a + m < g.S.length → (span g a m).length = st g (a + m) - st g a
  | 0, _ => by simp [span]
  | m + 1, hm => by
    rw [span_succ, List.length_append, span_len h a m (by omega), eds, edsN_len]
    have h1 := h.stLe (i := a) (j := a + m) (by omega) (by omega)
    have h2 := h.stLe (i := a + m) (j := a + m + 1) (by omega) (by omega)
    have e : a + (m + 1) = a + m + 1 := rfl
    rw [e]; omega
end Go.Proofs.Ytnlaonppgebpoaa
