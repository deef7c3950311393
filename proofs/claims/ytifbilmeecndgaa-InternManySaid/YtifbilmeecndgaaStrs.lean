/-
  A slice of texts that came in; 'light'.
-/
import Derived.Test.YtifbilmeecndgaaNil
import Derived.SliceStrings
import Derived.OpenShut
namespace Go.Proofs.Ytifbilmeecndgaa
open Go.RowKit

/-- The slice v reads as the texts l. -/
def StrsAt (w : World) (v : Value) (l : List ByteArray) : Prop :=
  ∃ a cap, v = .slice a l.length cap ∧ ∀ j, j < l.length → ∃ b off, a = some ⟨b, off, none⟩ ∧ w.cell? ⟨b, off + j, none⟩ = some (.string (l.getD j ByteArray.empty))

theorem StrsAt.below {w w' : World} {v : Value} {l : List ByteArray} (h : StrsAt w v l) (hb : Below w.heap.size w w') : StrsAt w' v l := by
  obtain ⟨a, cap, h1, h2⟩ := h
  exact ⟨a, cap, h1, fun j hj => let ⟨b, off, e, hc⟩ := h2 j hj; ⟨b, off, e, bkeep hb hc⟩⟩

theorem strsAt_nil (w : World) : StrsAt w (.slice none 0 0) [] := ⟨none, 0, rfl, fun j hj => by simp at hj⟩

theorem cells_at {w : World} {a : Addr} {n : Nat} {f : Nat → Value} (h : ∀ i, i < n → w.cell? (a.add i) = some (f i)) (hp : 0 < n) :
    ∃ b off, a = ⟨b, off, none⟩ ∧ ∀ j, j < n → w.cell? ⟨b, off + j, none⟩ = some (f j) := by
  obtain ⟨b, off, spot⟩ := a
  have hspot : spot = none := by simpa [Addr.add] using World.cell?_spot (h 0 hp)
  subst hspot
  exact ⟨b, off, rfl, fun j hj => by rw [← Go.WideShapes.add_plain]; exact h j hj⟩

/-- all texts are short, and few -/
def lightB (l : List ByteArray) : Bool := decide (l.length ≤ 200) && l.all (fun s => decide (s.size ≤ 200))
theorem lightB_spec {l : List ByteArray} (h : lightB l = true) : l.length ≤ 200 ∧ ∀ s ∈ l, s.size ≤ 200 := by
  simpa [lightB] using h

set_option maxHeartbeats 1000000 in
theorem light_ok (v : Value) (l : List ByteArray) (w : World) (h : StrsAt w v l) (hl : l.length ≤ 9223372036854775807) (hz : ∀ s ∈ l, s.size ≤ 9223372036854775807) :
    Calls Try.prog 7 #[v] w fun e w' => e = .returned (.bool (lightB l)) ∧ w = w' := by
  obtain ⟨a, cap, rfl, hc⟩ := h
  by_cases h2 : 200 < l.length
  · have e : lightB l = false := by simp [lightB]; omega
    rw [e]
    clear hc hz
    go_enter Try.func7, Try.ntmps7
    go_wp2
    go_ret
    exact ⟨rfl, rfl⟩
  · have HC := Lib.hid hc
    have HZ := Lib.hid hz
    clear hc hz
    go_enter Try.func7, Try.ntmps7
    go_wp2
    go_loopg [3] l.length (fun fu i wr => ∃ k : Nat, k + fu = l.length ∧ i = .int .i64 k ∧ (∀ j, j < k → (l.getD j ByteArray.empty).size ≤ 200) ∧ w = wr)
    case atStart => exact ⟨0, by omega, rfl, fun j hj => by omega, rfl⟩
    case round =>
      obtain ⟨k, hk, rfl, hall, rfl⟩ := hrel
      have HA := Lib.hid hall
      clear hall
      by_cases hlt : k < l.length
      · obtain ⟨b, off, rfl, hcell⟩ := HC.out k hlt
        have hmem : l.getD k ByteArray.empty ∈ l := by simp [List.getD, hlt]
        have hxs := HZ.out _ hmem
        by_cases hx : 200 < (l.getD k ByteArray.empty).size
        · have e : lightB l = false := by
            simp only [lightB, Bool.and_eq_false_iff, List.all_eq_false]
            exact .inr ⟨_, hmem, by simpa using hx⟩
          have E := Lib.hid e
          clear e hmem
          generalize l.getD k ByteArray.empty = x at *
          go_wp2
          go_ret
          exact ⟨by rw [E.out]; rfl, rfl⟩
        · have hx2 : (l.getD k ByteArray.empty).size ≤ 200 := by omega
          have hnext : ∀ j, j < k + 1 → (l.getD j ByteArray.empty).size ≤ 200 := fun j hj => by
            by_cases hjk : j = k
            · rw [hjk]; exact hx2
            · exact HA.out j (by omega)
          have HN := Lib.hid hnext
          clear hnext hmem
          generalize l.getD k ByteArray.empty = x at *
          go_wp2
          go_roundg (gk - 1)
          case measure => omega
          case rel => exact ⟨k + 1, by omega, by simp, HN.out, rfl⟩
      · have e : lightB l = true := by
          simp only [lightB, Bool.and_eq_true, decide_eq_true_eq, List.all_eq_true]
          refine ⟨by omega, fun x hx => ?_⟩
          obtain ⟨j, hj, rfl⟩ := List.mem_iff_getElem.1 hx
          have := HA.out j (by omega)
          simpa [List.getD, hj] using this
        have E := Lib.hid e
        clear e
        go_wp2
        go_ret
        exact ⟨by rw [E.out]; rfl, rfl⟩

/-- the texts put one behind the other -/
def putAll (l : List ByteArray) (k : Nat) : List ByteArray := (l.take k).foldl putL []
theorem putAll_succ (l : List ByteArray) (k : Nat) (hk : k < l.length) : putAll l (k + 1) = putL (putAll l k) (l.getD k ByteArray.empty) := by
  unfold putAll
  rw [List.take_add_one, List.getElem?_eq_getElem hk, Option.toList_some, List.foldl_append]
  simp [List.getD, hk]
theorem putL_le (L : List ByteArray) (s : ByteArray) : (putL L s).length ≤ L.length + 1 := by
  unfold putL; split <;> simp
theorem putAll_le (l : List ByteArray) : ∀ k, k ≤ l.length → (putAll l k).length ≤ k
  | 0, _ => by simp [putAll]
  | k + 1, h => by
    rw [putAll_succ l k (by omega)]
    have := putL_le (putAll l k) (l.getD k ByteArray.empty)
    have := putAll_le l k (by omega)
    omega
end Go.Proofs.Ytifbilmeecndgaa
