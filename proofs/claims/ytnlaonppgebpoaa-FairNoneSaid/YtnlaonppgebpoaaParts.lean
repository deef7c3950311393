/-
  The graph the other way round: how many edges: no program in sight.
-/
import Derived.Test.YtnlaonppgebpoaaBack
namespace Go.Proofs.Ytnlaonppgebpoaa

theorem swap_ok {g : Gr} (h : Rt g) (hn : g.S.length ≤ 100000) : buildOk (nodesN g : Nat) (tellL swapE (allL g)) = true := by
  have hnr := nodesN_right h
  refine buildOk_intro (by omega) ?_
  intro e he
  simp only [tellL, List.mem_map, List.mem_filter] at he
  obtain ⟨x, ⟨hx, -⟩, rfl⟩ := he
  have := allL_mem h hx
  simp only [swapE]
  omega
theorem backG_csr {g : Gr} (h : Rt g) (hn : g.S.length ≤ 100000) : backG g = csr (nodesN g) (tellL swapE (allL g)) := by
  unfold backG
  rw [madeG_right h, buildG_ok (swap_ok h hn)]
theorem tellL_swap (l : List Ed) : tellL swapE l = l.map (fun e => (e.2.2, e.2.1, e.1)) := by
  unfold tellL
  have e : l.filter (fun e => (swapE e).2) = l := List.filter_eq_self.2 (fun _ _ => rfl)
  rw [e]; rfl
theorem backG_right {g : Gr} (h : Rt g) (hn : g.S.length ≤ 100000) : Rt (backG g) := by rw [backG_csr h hn]; exact csr_right (swap_ok h hn)
theorem backG_nodes {g : Gr} (h : Rt g) (hn : g.S.length ≤ 100000) : nodesN (backG g) = nodesN g := by
  rw [nodesN_right (backG_right h hn), backG_csr h hn, csr_S_len]; omega
theorem outL_len (g : Gr) (i : Int) : (outL g i).length ≤ g.T.length := by
  unfold outL
  split
  · rename_i h
    have hR := (rightB_iff g).1 h.1
    have := hR.stTop (i := i.toNat + 1) (by omega)
    rw [eds, edsN_len]; omega
  · simp
theorem outL_eds {g : Gr} (h : Rt g) {i : Nat} (hi : i < nodesN g) : outL g i = eds g i := by
  have := nodesN_right h
  unfold outL; rw [if_pos ⟨(rightB_iff g).2 h, by omega, by omega⟩]; simp
theorem back_out {g : Gr} (h : Rt g) (hn : g.S.length ≤ 100000) {i : Nat} (hi : i < nodesN g) : (outL (backG g) i).length = (allL g).countP (fun e => decide (e.2.2 = (i : Int))) := by
  rw [outL_eds (backG_right h hn) (by rw [backG_nodes h hn]; exact hi), backG_csr h hn, eds_csr (swap_ok h hn) hi, tellL_swap, outs, ← List.countP_eq_length_filter, List.countP_map]
  rfl
theorem back_all {g : Gr} (h : Rt g) (hn : g.S.length ≤ 100000) : (allL (backG g)).length = (allL g).length := by
  have e := countP_all_csr (fun _ => true) (swap_ok h hn)
  rw [List.countP_eq_length.2 (by simp), List.countP_eq_length.2 (by simp)] at e
  rw [backG_csr h hn, e, tellL_swap, List.length_map]
theorem countTo_take (l : List Ed) (i : Int) (k : Nat) (hk : k < l.length) : (l.take (k + 1)).countP (fun e => decide (e.2.2 = i)) = (l.take k).countP (fun e => decide (e.2.2 = i)) + if (l.getD k (0, 0, 0)).2.2 = i then 1 else 0 := by
  rw [List.take_add_one, List.getElem?_eq_getElem hk, Option.toList_some, List.countP_append, List.countP_cons]
  simp [List.getD, hk]
end Go.Proofs.Ytnlaonppgebpoaa
