/-
  The walk of InternPlays.
-/
import Derived.Test.YtifbilmeecndgaaLaws
namespace Go.Proofs.Ytifbilmeecndgaa
open Go.RowKit

/-- The table and the reference's, made since w0, that share nothing. -/
def TR (w0 w : World) (a rb : Nat) (La Lr : List ByteArray) : Prop :=
  Below w0.heap.size w0 w ∧ ∃ f rv, TabOk w a La f ∧ RefAt w rb rv Lr ∧ (∀ k, f k → w0.heap.size ≤ k ∧ ¬ RFoot rb rv k) ∧ ∀ k, RFoot rb rv k → w0.heap.size ≤ k

theorem TR.kept {F : Nat → Prop} {w0 w w' : World} {a rb : Nat} {La Lr : List ByteArray} (h : TR w0 w a rb La Lr) (hf : Frm F w w') (hF : ∀ k, F k → w.heap.size ≤ k) : TR w0 w' a rb La Lr :=
  let ⟨h1, f, rv, h2, h3, h4, h5⟩ := h
  ⟨h1.trans (hf.below (fun k hk => Nat.le_trans h1.size (hF k hk)) h1.size), f, rv, h2.kept hf (fun k hk hk' => by have := h2.lt k hk; have := hF k hk'; omega), h3.kept hf (fun k hk hk' => by have := h3.lt k hk; have := hF k hk'; omega), h4, h5⟩
theorem TR.below {w0 w w' : World} {a rb : Nat} {La Lr : List ByteArray} (h : TR w0 w a rb La Lr) (hb : Below w.heap.size w w') : TR w0 w' a rb La Lr :=
  h.kept (bfrm hb (fun _ => False)) (fun _ hk => hk.elim)

theorem putTR {w0 w : World} {a rb : Nat} {La Lr : List ByteArray} (h : TR w0 w a rb La Lr) (s : ByteArray) (hs : s.size ≤ 200) (hL : La.length < 99999) :
    Calls Try.prog 10 #[.pointer (some ⟨a, 0, none⟩), .string s] w fun e w' => e = .returned (.tuple #[.int .i64 (idx s La : Nat), .bool (isNew s La)]) ∧ TR w0 w' a rb (putL La s) Lr := by
  obtain ⟨h1, fa, rv, h2, h3, h4, h5⟩ := h
  refine (put_ok h2 s hs hL).mono ?_
  rintro e w' ⟨rfl, hF, f', hT, hk⟩
  refine ⟨rfl, h1.trans (hF.below (fun k hf => (h4 k hf).1) h1.size), f', rv, hT, h3.kept hF (fun k hb ha => (h4 k ha).2 hb), ?_, h5⟩
  intro k hf'
  rcases hk k hf' with hf | hge
  · exact h4 k hf
  · exact ⟨Nat.le_trans h1.size hge, fun hb => by have := h3.lt k hb; omega⟩
theorem putTR2 {w0 w : World} {a rb : Nat} {La Lr : List ByteArray} (h : TR w0 w a rb La Lr) (s : ByteArray) (hL : Lr.length < 99999) :
    Calls Try.prog 11 #[.pointer (some ⟨rb, 0, none⟩), .string s] w fun e w' => e = .returned (.tuple #[.int .i64 (idx s Lr : Nat), .bool (isNew s Lr)]) ∧ TR w0 w' a rb La (putL Lr s) := by
  obtain ⟨h1, fa, rv, h2, h3, h4, h5⟩ := h
  refine (rput_ok h3 s hL).mono ?_
  rintro e w' ⟨rfl, hF, rv', hT, hk⟩
  refine ⟨rfl, h1.trans (hF.below h5 h1.size), fa, rv', h2.kept hF (fun k hk => (h4 k hk).2), hT, ?_, ?_⟩
  · intro k hf
    refine ⟨(h4 k hf).1, fun hr => ?_⟩
    rcases hk k hr with hr | hge
    · exact (h4 k hf).2 hr
    · have := h2.lt k hf; omega
  · intro k hr
    rcases hk k hr with hr | hge
    · exact h5 k hr
    · exact Nat.le_trans h1.size hge
theorem getTR {w0 w : World} {a rb : Nat} {La Lr : List ByteArray} (h : TR w0 w a rb La Lr) (s : ByteArray) (hs : s.size ≤ 200) :
    Calls Try.prog 12 #[.pointer (some ⟨a, 0, none⟩), .string s] w fun e w' => e = .returned (.tuple #[.int .i64 (getN s La : Nat), .bool (isIn s La)]) ∧ TR w0 w' a rb La Lr := by
  obtain ⟨h1, fa, fb, h2, _⟩ := id h
  refine (get_ok h2 s hs).mono ?_
  rintro e w' ⟨rfl, hb⟩
  exact ⟨rfl, h.below hb⟩
theorem getTR2 {w0 w : World} {a rb : Nat} {La Lr : List ByteArray} (h : TR w0 w a rb La Lr) (s : ByteArray) :
    Calls Try.prog 13 #[.pointer (some ⟨rb, 0, none⟩), .string s] w fun e w' => e = .returned (.tuple #[.int .i64 (getN s Lr : Nat), .bool (isIn s Lr)]) ∧ w = w' := by
  obtain ⟨h1, fa, fb, h2, h3, _⟩ := id h
  exact rget_ok h3 s
theorem refTR {w0 w : World} {a : Nat} {La : List ByteArray} (h : TabNew w0 w a La) : TR w0 (w.alloc (.cells #[.slice none 0 0] 29)) a w.heap.size La [] := by
  obtain ⟨h1, f, h2, h3⟩ := h
  have hb := (Below.refl w.heap.size w).alloc (Nat.le_refl _) (.cells #[.slice none 0 0] 29)
  refine ⟨h1.trans (hb.mono h1.size), f, .slice none 0 0, h2.below hb, ⟨heap_alloc_new _ _, World.ownsRow_nil _ _ _ _, by simp [Value.ownBlock], by simp⟩, ?_, ?_⟩
  · intro k hk
    refine ⟨h3 k hk, ?_⟩
    rintro (rfl | hk')
    · have := h2.lt _ hk; omega
    · simp [Value.ownBlock] at hk'
  · rintro k (rfl | hk')
    · exact h1.size
    · simp [Value.ownBlock] at hk'

theorem quiet_eq {P : Program} {f : FuncId} {args : Array Value} {w : World} {n : Nat} {v : Value}
    (h : Calls P f args (w.drewN n) fun e w' => e = .returned v ∧ w.drewN n = w') : Calls P f args (w.drewN n) fun e w'' => e = .returned v ∧ ∃ m, w'' = w.drewN m :=
  h.mono fun _ _ ⟨he, hm⟩ => ⟨he, n, hm.symm⟩

theorem TR.len {w0 w : World} {a rb : Nat} {La Lr : List ByteArray} (h : TR w0 w a rb La Lr) : Calls Try.prog 14 #[.pointer (some ⟨a, 0, none⟩)] w fun e w' => e = .returned (.int .i64 (La.length : Nat)) ∧ w = w' :=
  let ⟨_, _, _, h2, _⟩ := h; len_ok h2
theorem TR.slots {w0 w : World} {a rb : Nat} {La Lr : List ByteArray} (h : TR w0 w a rb La Lr) : Calls Try.prog 15 #[.pointer (some ⟨a, 0, none⟩)] w fun e w' => e = .returned (.int .i64 (Tab.slots La.length : Nat)) ∧ w = w' :=
  let ⟨_, _, _, h2, _⟩ := h; slots_ok h2
theorem TR.rslots {w0 w : World} {a rb : Nat} {La Lr : List ByteArray} (h : TR w0 w a rb La Lr) : Calls Try.prog 16 #[.pointer (some ⟨rb, 0, none⟩)] w fun e w' => e = .returned (.int .i64 (Tab.slots Lr.length : Nat)) ∧ w = w' :=
  let ⟨_, _, _, _, h3, _⟩ := h; rslots_ok h3
theorem TR.at {w0 w : World} {a rb : Nat} {La Lr : List ByteArray} (h : TR w0 w a rb La Lr) (i : Int) : Calls Try.prog 18 #[.pointer (some ⟨a, 0, none⟩), .int .i64 i] w fun e w' => e = .returned (.tuple #[.string (atS La i), .bool (atB La i)]) ∧ w = w' :=
  let ⟨_, _, _, h2, _⟩ := h; at_ok h2 i
theorem TR.rat {w0 w : World} {a rb : Nat} {La Lr : List ByteArray} (h : TR w0 w a rb La Lr) (i : Int) : Calls Try.prog 19 #[.pointer (some ⟨rb, 0, none⟩), .int .i64 i] w fun e w' => e = .returned (.tuple #[.string (atS Lr i), .bool (atB Lr i)]) ∧ w = w' :=
  let ⟨_, _, _, _, h3, _⟩ := h; rat_ok h3 i
theorem TR.cell {w0 w : World} {a rb : Nat} {La Lr : List ByteArray} (h : TR w0 w a rb La Lr) : ∃ x c, w.cell? ⟨rb, 0, none⟩ = some (.slice x Lr.length c) := by
  obtain ⟨_, _, rv, _, h3, _⟩ := h
  obtain ⟨x, c, e⟩ := tv_len h3.2.1
  exact ⟨x, c, by rw [← e]; exact cell_of_block h3.1 0 _ rfl⟩
theorem TR.all {w0 w : World} {a rb : Nat} {La Lr : List ByteArray} (h : TR w0 w a rb La Lr) : Calls Try.prog 17 #[.pointer (some ⟨a, 0, none⟩)] w (AllOut w La) :=
  let ⟨_, _, _, h2, _⟩ := h; all_ok h2

/-- While all's row is spoilt: nothing older has turned. -/
def Spoil (w5 wx : World) (a : Option Addr) (n : Nat) : Prop :=
  Below w5.heap.size w5 wx ∧ (0 < n → ∃ g cur, a = some ⟨g, 0, none⟩ ∧ w5.heap.size ≤ g ∧ wx.heap[g]? = some (.cells cur 9 (0, 0)) ∧ n ≤ cur.size)

theorem spoil_start {w5 w3 : World} {aa : Option Addr} {ca : Nat} {L : List ByteArray} (hb : Below w5.heap.size w5 w3)
    (ho : 0 < L.length → w3.ownsRow w5.heap.size 9 1 (.slice aa L.length ca) L.length (L.map Value.string)) : Spoil w5 w3 aa L.length := by
  refine ⟨hb, fun h => ?_⟩
  rcases (ho h).2 with ⟨hv, h0⟩ | ⟨g, cap, cur, hv, hbg, hg, hn, _, hs, _⟩
  · omega
  · cases hv; exact ⟨g, cur, rfl, hbg, hg, by omega⟩

theorem spoil_step {w5 wx : World} {g n k : Nat} {cur : Array Value} {v : Value} (h : Spoil w5 wx (some ⟨g, 0, none⟩) n) (hge : w5.heap.size ≤ g) (hg : wx.heap[g]? = some (.cells cur 9 (0, 0))) (hcs : n ≤ cur.size) :
    Spoil w5 (wx.setCell ⟨g, k, none⟩ v) (some ⟨g, 0, none⟩) n :=
  ⟨h.1.setCell (p := ⟨g, k, none⟩) hge v, fun _ => ⟨g, _, rfl, hge, heap_setCell_block hg k v, by simpa using hcs⟩⟩

set_option maxRecDepth 100000 in
set_option maxHeartbeats 4000000 in
theorem lawPlays (v : Value) (l : List ByteArray) (s : ByteArray) (w : World) (h : StrsAt w v l) (hl : l.length ≤ 9223372036854775807) (hz : ∀ s ∈ l, s.size ≤ 9223372036854775807) (hs : s.size ≤ 9223372036854775807) :
    Calls Try.prog 3 #[v, .string s] w fun e w' => e = .returned (.bool true) ∧ Below w.heap.size w w' := by
  have G := light_ok v l w h hl hz
  have HG := Lib.hid G
  clear G
  by_cases hlt : lightB l = true
  · rw [hlt] at HG
    obtain ⟨hl2, hz2⟩ := lightB_spec hlt
    clear hlt
    by_cases hs2 : 200 < s.size
    · clear hz2 hz
      go_enter Try.func3, Try.ntmps3
      go_wp2_with (first | (go_at_call 7; refine HG.out.mono ?_; rintro e w1 ⟨rfl, rfl⟩) | (go_at_call 8; refine (known_ok _).mono ?_; rintro e w1 ⟨rfl, hb⟩))
      go_ret
      exact ⟨rfl, hb⟩
    · have pn := ptr_ne
      obtain ⟨a, cap, rfl, hc⟩ := h
      have HC := Lib.hid hc
      have HZ := Lib.hid hz2
      clear hz2 hz hc
      go_enter Try.func3, Try.ntmps3
      go_wp2_with fail
      refine HG.out.mono ?_
      rintro e w1 ⟨rfl, rfl⟩
      go_wp2_with fail
      refine (newN w).mono ?_
      rintro e w1 ⟨ta, rfl, h1⟩
      have h2 := refTR h1
      clear h1
      go_wp2_with fail
      generalize w1.heap.size = rb at *
      generalize w1.alloc _ = w2 at *
      go_loopg [7, 8, 9, 10, 11, 12, 13, 14, 15] l.length (fun fu i _ _ _ _ _ _ _ _ wr => ∃ k : Nat, k + fu = l.length ∧ i = .int .i64 k ∧ TR w wr ta rb (putAll l k) (putAll l k))
      case atStart => exact ⟨0, by omega, rfl, h2⟩
      case round =>
        obtain ⟨k, hk, rfl, hT⟩ := hrel
        have hle := putAll_le l k (by omega)
        by_cases hlt : k < l.length
        · obtain ⟨b, off, rfl, hcell⟩ := HC.out k hlt
          have hxs := HZ.out (l.getD k ByteArray.empty) (by simp [List.getD, hlt])
          have hcr := bkeep hT.1 hcell
          have hsu := putAll_succ l k hlt
          have HU := Lib.hid hsu
          clear hsu
          generalize l.getD k ByteArray.empty = x at *
          have HW := Lib.hid hcell
          clear hcell
          generalize putAll l k = L at *
          go_wp2_with fail
          refine (putTR hT x hxs (by omega)).mono ?_
          clear hT hcr
          rintro e w3 ⟨rfl, hT⟩
          have hcr := bkeep hT.1 HW.out
          go_wp2_with fail
          refine (putTR2 hT x (by omega)).mono ?_
          clear hT hcr
          rintro e w4 ⟨rfl, hT⟩
          go_wp2_with fail
          refine (getTR hT s (by omega)).mono ?_
          clear hT
          rintro e w5 ⟨rfl, hT⟩
          go_wp2_with fail
          refine (getTR2 hT s).mono ?_
          rintro e w6 ⟨rfl, rfl⟩
          obtain ⟨y, cy, hcy⟩ := hT.cell
          generalize putL L x = L2 at *
          have T1 := Lib.hid (fun n : Nat => (hT.below (bdrewN (Below.refl _ _) n)).len)
          have T2 := Lib.hid (fun n : Nat => (hT.below (bdrewN (Below.refl _ _) n)).slots)
          have T3 := Lib.hid (fun n : Nat => (hT.below (bdrewN (Below.refl _ _) n)).rslots)
          have q1 : ∀ z : Int, (!z == z) = false := by intro z; simp
          have q2 : ∀ z : Bool, (!z == z) = false := by intro z; simp
          go_wp2_with fail
          go_quiet (first | (go_at_call 14; exact quiet_eq (T1.out _)) | (go_at_call 15; exact quiet_eq (T2.out _)) | (go_at_call 16; exact quiet_eq (T3.out _)))
          go_wp2_with fail
          go_roundg (gk - 1)
          case measure => omega
          case rel => exact ⟨k + 1, by omega, by simp, by rw [HU.out]; exact hT.below (bdrewN (Below.refl _ _) _)⟩
        · have hkl : k = l.length := by omega
          rw [hkl] at hT hle
          clear hk hkl
          generalize putAll l l.length = L at *
          obtain ⟨y, cy, hcy⟩ := hT.cell
          go_wp2_with fail
          refine hT.all.mono ?_
          rintro e w3 ⟨va, aa, ca, rfl, rfl, hown, hb3⟩
          have hcy3 := bkeep hb3 hcy
          have q3 : ((L.length : Int) != (L.length : Int)) = false := by simp
          have HO := Lib.hid hown
          clear hown hcy
          go_wp2_with fail
          clear hcy3
          go_loopg [17, 18, 19, 20, 21] (L.length + 2) (fun fu i _ _ _ _ wr => ∃ (k : Nat) (iv : Int), k + fu = L.length + 2 ∧ i = .int .i64 iv ∧ iv = (k : Int) - 1 ∧ w3 = wr)
          case atStart => exact ⟨0, -1, by omega, rfl, by omega, rfl⟩
          case round =>
            obtain ⟨k, iv, hk, rfl, hiv, rfl⟩ := hrel
            have IV := Lib.hid hiv
            have b1 : -1 ≤ iv := by omega
            have b2 : iv ≤ L.length + 1 := by omega
            have hT3 := hT.below hb3
            have A1 := Lib.hid (hT3.at iv)
            have A2 := Lib.hid (hT3.rat iv)
            by_cases hle2 : iv ≤ L.length
            · have HK := Lib.hid hk
              clear hT3 hk
              by_cases hin : 0 ≤ iv ∧ iv < L.length
              · obtain ⟨j, rfl⟩ := Int.eq_ofNat_of_zero_le hin.1
                have hj : j < L.length := by omega
                obtain ⟨g, cap', hge, _, hcell⟩ := ownsRow_text (HO.out (by omega)) j hj
                cases hge
                have e1 : atS L j = L.getD j ByteArray.empty := by unfold atS; rw [if_pos (by omega), Int.toNat_natCast]
                have e2 : atB L j = true := by unfold atB; rw [decide_eq_true (by omega)]
                rw [e1, e2] at A1 A2
                clear e1 e2 hin hiv
                generalize L.getD j ByteArray.empty = x at *
                have hbt : (!x.toList == x.toList) = false := by simp
                go_wp2_with fail
                refine A1.out.mono ?_
                rintro e w4 ⟨rfl, rfl⟩
                go_wp2_with fail
                refine A2.out.mono ?_
                rintro e w4 ⟨rfl, rfl⟩
                go_wp2_with fail
                go_roundg (gk - 1)
                case measure => have := HK.out; have := IV.out; omega
                case rel => exact ⟨k + 1, (j : Int) + 1, by have := HK.out; have := IV.out; omega, by simp, by have := IV.out; simp; omega, rfl⟩
              · have e1 : atS L iv = ByteArray.empty := by unfold atS; rw [if_neg hin]
                have e2 : atB L iv = false := by unfold atB; rw [decide_eq_false hin]
                rw [e1, e2] at A1 A2
                clear e1 e2 hin hiv
                have hbt : (!ByteArray.empty.toList == ByteArray.empty.toList) = false := by simp
                go_wp2_with fail
                refine A1.out.mono ?_
                rintro e w4 ⟨rfl, rfl⟩
                go_wp2_with fail
                refine A2.out.mono ?_
                rintro e w4 ⟨rfl, rfl⟩
                go_wp2_with fail
                go_roundg (gk - 1)
                case measure => have := HK.out; have := IV.out; omega
                case rel => exact ⟨k + 1, iv + 1, by have := HK.out; have := IV.out; omega, by simp, by have := IV.out; simp; omega, rfl⟩
            · clear A1 A2 hiv hk
              go_wp2_with fail
              obtain ⟨w5, rfl⟩ : ∃ z : World, z = wr := ⟨_, rfl⟩
              go_loopg [22] L.length (fun fu i wx => ∃ k : Nat, k + fu = L.length ∧ i = .int .i64 k ∧ Spoil w5 wx aa L.length)
              case atStart => exact ⟨0, by omega, rfl, spoil_start hb3 HO.out⟩
              case round =>
                obtain ⟨k, hk, rfl, hsp⟩ := hrel
                by_cases hlt2 : k < L.length
                · obtain ⟨g, cur, rfl, hge, hg, hcs⟩ := hsp.2 (by omega)
                  obtain ⟨cv, hc1⟩ : ∃ cv, wr.cell? ⟨g, k, none⟩ = some cv := ⟨_, cell_of_block hg k _ (Array.getElem?_eq_getElem (by omega))⟩
                  have hf1 : wr.frozen? ⟨g, k, none⟩ = false := free_of_block hg k
                  have hnext := spoil_step (k := k) (v := .string { data := #[115, 112, 111, 105, 108, 116] }) hsp hge hg hcs
                  have HS := Lib.hid hnext
                  clear hsp hnext hg hcs
                  go_wp2_with fail
                  go_roundg (gk - 1)
                  case measure => omega
                  case rel => exact ⟨k + 1, by omega, by simp, HS.out⟩
                · have hTf := hT.below hsp.1
                  clear hT hT3 hb3
                  have A1 := Lib.hid (hTf.at 0)
                  have A2 := Lib.hid (hTf.rat 0)
                  generalize atS L 0 = x at *
                  generalize atB L 0 = bb at *
                  have hbt : (x.toList == x.toList) = true := by simp
                  go_wp2_with fail
                  refine A1.out.mono ?_
                  rintro e w4 ⟨rfl, rfl⟩
                  go_wp2_with fail
                  refine A2.out.mono ?_
                  rintro e w4 ⟨rfl, rfl⟩
                  go_wp2_with (first | (go_at_call 8; refine (known_ok _).mono ?_; rintro e w1 ⟨rfl, hb⟩))
                  go_ret
                  exact ⟨rfl, hTf.1.trans (hb.mono hTf.1.size)⟩
  · have hlf : lightB l = false := by simpa using hlt
    rw [hlf] at HG
    clear hlt hlf hz
    go_enter Try.func3, Try.ntmps3
    go_wp2_with (first | (go_at_call 7; refine HG.out.mono ?_; rintro e w1 ⟨rfl, rfl⟩) | (go_at_call 8; refine (known_ok _).mono ?_; rintro e w1 ⟨rfl, hb⟩))
    go_ret
    exact ⟨rfl, hb⟩
end Go.Proofs.Ytifbilmeecndgaa
