/-
  lasso: the small functions: the least node, which nodes are a part's, where an agent asks to go. ref19's goal: the walk.
-/
import Derived.Test.YtnlaonppgebpoaaFairC
import Derived.StillTailTactics
namespace Go.Proofs.Ytnlaonppgebpoaa
open Go.RowKit

/-- the least of the first k of some numbers -/
def leastK (l : List Int) (k : Nat) : Int := (l.take k).foldl min (l.getD 0 0)
def leastL (l : List Int) : Int := l.foldl min (l.getD 0 0)
theorem leastK_zero (l : List Int) : leastK l 0 = l.getD 0 0 := rfl
theorem leastK_all (l : List Int) : leastK l l.length = leastL l := by unfold leastK leastL; rw [List.take_length]
theorem leastK_succ {l : List Int} {k : Nat} (h : k < l.length) : leastK l (k + 1) = min (leastK l k) (l.getD k 0) := by
  have e : l.take (k + 1) = l.take k ++ [l.getD k 0] := by
    rw [List.take_add_one, List.getD_eq_getElem?_getD, List.getElem?_eq_getElem h]; rfl
  unfold leastK
  rw [e, List.foldl_append]
  rfl
/-- the first number of which something is so; -1: none -/
def firstN (p : Nat → Bool) (n : Nat) : Int := match (List.range n).find? p with | some i => (i : Int) | none => -1
theorem firstN_hit {p : Nat → Bool} {n k : Nat} (hk : k < n) (h : ∀ j, j < k → p j = false) (hp : p k = true) : firstN p n = (k : Int) := by
  unfold firstN
  have : (List.range n).find? p = some k := by
    rw [List.find?_range_eq_some]
    exact ⟨hp, List.mem_range.2 hk, fun j hj => by rw [h j hj]; rfl⟩
  rw [this]
theorem firstN_none {p : Nat → Bool} {n : Nat} (h : ∀ j, j < n → p j = false) : firstN p n = -1 := by
  unfold firstN
  have : (List.range n).find? p = none := by
    rw [List.find?_range_eq_none]
    exact fun j hj => by rw [h j hj]; rfl
  rw [this]
theorem firstN_cases (p : Nat → Bool) (n : Nat) : (firstN p n = -1 ∧ ∀ j, j < n → p j = false) ∨ ∃ k : Nat, k < n ∧ firstN p n = (k : Int) ∧ p k = true ∧ ∀ j, j < k → p j = false := by
  unfold firstN
  cases h : (List.range n).find? p with
  | none => rw [List.find?_range_eq_none] at h; exact .inl ⟨rfl, fun j hj => by have := h j hj; simpa using this⟩
  | some k =>
    rw [List.find?_range_eq_some] at h
    exact .inr ⟨k, List.mem_range.1 h.2.1, rfl, h.1, fun j hj => by have := h.2.2 j hj; simpa using this⟩
/-- an edge by which an agent acts in a part -/
def hitE (inl : List Bool) (a : Int) (e : Ed) : Bool := decide (e.2.1 = a) && (inl.getD e.1.toNat false && inl.getD e.2.2.toNat false)
def idleP (en : List (List Bool)) (inl : List Bool) (a i : Nat) : Bool := inl.getD i false && !(en.getD i []).getD a false
/-- where an agent asks to go, and where it acts -/
def goalL (g : Gr) (en : List (List Bool)) (mode : Int) (inl : List Bool) (a : Nat) : Int × Int :=
  match (allL g).find? (hitE inl a) with
  | some e => (e.1, e.2.2)
  | none => if mode = 1 then (firstN (idleP en inl a) en.length, -1) else (-1, -1)
theorem find_hit {α : Type} {p : α → Bool} {d : α} : ∀ {l : List α} {k : Nat}, k < l.length → (∀ j, j < k → p (l.getD j d) = false) → p (l.getD k d) = true → l.find? p = some (l.getD k d)
  | [], _, h, _, _ => by simp at h
  | x :: l, 0, _, _, hp => by rw [List.find?_cons_of_pos (by simpa using hp)]; rfl
  | x :: l, k + 1, h, hj, hp => by
    rw [List.find?_cons_of_neg (by have := hj 0 (by omega); simpa using this)]
    exact find_hit (l := l) (k := k) (by simpa using h) (fun j hjk => by have := hj (j + 1) (by omega); simpa using this) (by simpa using hp)
theorem find_no {α : Type} {p : α → Bool} {d : α} {l : List α} (h : ∀ j, j < l.length → p (l.getD j d) = false) : l.find? p = none := by
  rw [List.find?_eq_none]
  intro x hx
  obtain ⟨j, hj, rfl⟩ := List.getElem_of_mem hx
  have := h j hj
  rw [List.getD_eq_getElem?_getD, List.getElem?_eq_getElem hj] at this
  simpa using this

set_option maxRecDepth 100000 in
set_option maxHeartbeats 16000000 in
theorem least_ok (pv : Value) (l : List Int) (w : World) (hp : IntsAt w pv l) (hne : 0 < l.length) (hl : l.length ≤ 1000000) :
    Calls Try.prog 114 #[pv] w fun e w' => e = .returned (.int .i64 (leastL l)) ∧ Below w.heap.size w w' := by
  obtain ⟨a, c, rfl, hc⟩ := hp
  obtain ⟨b0, o0, hb0, d0⟩ := hc 0 hne
  have HC := Lib.hid hc
  have K0 := Lib.hid (leastK_zero l)
  have KA := Lib.hid (leastK_all l)
  have KS := Lib.hid (fun k (hk : k < l.length) => leastK_succ hk)
  clear hc
  subst hb0
  obtain ⟨LG, hLG⟩ : ∃ f : Nat → Int, leastK l = f := ⟨_, rfl⟩
  rw [hLG] at KA K0 KS
  generalize leastL l = LL at *
  clear hLG
  obtain ⟨n, hn⟩ : ∃ n, l.length = n := ⟨_, rfl⟩
  rw [hn] at HC KA KS hne hl ⊢
  clear hn
  have z0 : (0 : Int) < (n : Int) := by omega
  rw [Nat.add_zero] at d0
  generalize l.getD 0 0 = x0 at d0 K0
  go_enter Try.func114, Try.ntmps114
  go_wp2_with fail
  go_loopg [3, 11] n (fun fu x c wr => ∃ k : Nat, k + fu = n ∧ c = .int .i64 k ∧ x = .int .i64 (LG k) ∧ Below w.heap.size w wr)
  case atStart => exact ⟨0, by omega, rfl, by rw [K0.out], Below.refl _ _⟩
  case round =>
    clear K0 d0
    obtain ⟨k, hk, rfl, rfl, hbr⟩ := hrel
    by_cases hlt : k < n
    · obtain ⟨b1, o1, e1, d1⟩ := HC.out k hlt
      cases e1
      have y1 := bkeep hbr d1
      have z1 : (k : Int) < (n : Int) := by omega
      have KK := Lib.hid (KS.out k hlt)
      have HB := Lib.hid hbr
      clear d1 hbr
      generalize l.getD k 0 = x at *
      generalize LG k = m at *
      by_cases hx : x < m
      · have E : Hid (LG (k + 1) = x) := Lib.hid (by rw [KK.out]; omega)
        go_wp2_with fail
        go_roundg (n - (k + 1))
        case measure => omega
        case rel => exact ⟨k + 1, by omega, by simp, by rw [E.out], HB.out⟩
      · have E : Hid (LG (k + 1) = m) := Lib.hid (by rw [KK.out]; omega)
        go_wp2_with fail
        go_roundg (n - (k + 1))
        case measure => omega
        case rel => exact ⟨k + 1, by omega, by simp, by rw [E.out], HB.out⟩
    · obtain rfl : k = n := by omega
      have E := Lib.hid KA.out
      go_wp2_with fail
      go_ret
      exact ⟨by rw [E.out]; rfl, hbr⟩

set_option maxRecDepth 100000 in
set_option maxHeartbeats 16000000 in
theorem rleast_ok (pv : Value) (l : List Int) (w : World) (hp : IntsAt w pv l) (hne : 0 < l.length) (hl : l.length ≤ 1000000) :
    Calls Try.prog 102 #[pv] w fun e w' => e = .returned (.int .i64 (leastL l)) ∧ Below w.heap.size w w' := by
  obtain ⟨a, c, rfl, hc⟩ := hp
  obtain ⟨b0, o0, hb0, d0⟩ := hc 0 hne
  have HC := Lib.hid hc
  have K0 := Lib.hid (leastK_zero l)
  have KA := Lib.hid (leastK_all l)
  have KS := Lib.hid (fun k (hk : k < l.length) => leastK_succ hk)
  clear hc
  subst hb0
  obtain ⟨LG, hLG⟩ : ∃ f : Nat → Int, leastK l = f := ⟨_, rfl⟩
  rw [hLG] at KA K0 KS
  generalize leastL l = LL at *
  clear hLG
  obtain ⟨n, hn⟩ : ∃ n, l.length = n := ⟨_, rfl⟩
  rw [hn] at HC KA KS hne hl ⊢
  clear hn
  have z0 : (0 : Int) < (n : Int) := by omega
  rw [Nat.add_zero] at d0
  generalize l.getD 0 0 = x0 at d0 K0
  go_enter Try.func102, Try.ntmps102
  go_wp2_with fail
  go_loopg [3, 4] n (fun fu x c wr => ∃ k : Nat, k + fu = n ∧ c = .int .i64 k ∧ x = .int .i64 (LG k) ∧ Below w.heap.size w wr)
  case atStart => exact ⟨0, by omega, rfl, by rw [K0.out], Below.refl _ _⟩
  case round =>
    clear K0 d0
    obtain ⟨k, hk, rfl, rfl, hbr⟩ := hrel
    by_cases hlt : k < n
    · obtain ⟨b1, o1, e1, d1⟩ := HC.out k hlt
      cases e1
      have y1 := bkeep hbr d1
      have z1 : (k : Int) < (n : Int) := by omega
      have KK := Lib.hid (KS.out k hlt)
      have HB := Lib.hid hbr
      clear d1 hbr
      generalize l.getD k 0 = x at *
      generalize LG k = m at *
      by_cases hx : x < m
      · have E : Hid (LG (k + 1) = x) := Lib.hid (by rw [KK.out]; omega)
        go_wp2_with fail
        go_roundg (n - (k + 1))
        case measure => omega
        case rel => exact ⟨k + 1, by omega, by simp, by rw [E.out], HB.out⟩
      · have E : Hid (LG (k + 1) = m) := Lib.hid (by rw [KK.out]; omega)
        go_wp2_with fail
        go_roundg (n - (k + 1))
        case measure => omega
        case rel => exact ⟨k + 1, by omega, by simp, by rw [E.out], HB.out⟩
    · obtain rfl : k = n := by omega
      have E := Lib.hid KA.out
      go_wp2_with fail
      go_ret
      exact ⟨by rw [E.out]; rfl, hbr⟩

set_option maxRecDepth 100000 in
set_option maxHeartbeats 16000000 in
theorem rmask_ok (pv : Value) (part : List Int) (N : Nat) (w : World) (hp : IntsAt w pv part) (hin : ∀ x ∈ part, ∃ i : Nat, x = (i : Int) ∧ i < N) (hN : N ≤ 100000) (hl : part.length ≤ 1000000) :
    Calls Try.prog 101 #[pv, .int .i64 (N : Nat)] w fun e w' => ∃ v, e = .returned v ∧ BoolsAt w' v (maskL N part) ∧ Below w.heap.size w w' := by
  obtain ⟨pa, pc, rfl, hpc⟩ := hp
  have HP := Lib.hid hpc
  have HIN := Lib.hid (fun k (hk : k < part.length) => hin _ (getD_mem hk))
  have HST : Hid (∀ k q : Nat, k < part.length → part.getD k 0 = (q : Int) → (maskL N (part.take k)).set q true = maskL N (part.take (k + 1))) := Lib.hid (fun k q hk hq => mask_step hk hq)
  have HML : Hid (∀ p, (maskL N p).length = N) := Lib.hid (maskL_len _)
  have T0 : Hid (maskL N (part.take 0) = List.replicate N false) := Lib.hid (mask_nil _)
  have TA : Hid (maskL N part = maskL N (part.take part.length)) := Lib.hid (by rw [List.take_length])
  clear hpc hin
  generalize maskL N = MK at *
  obtain ⟨n, hnn⟩ : ∃ n, part.length = n := ⟨_, rfl⟩
  rw [hnn] at HP HIN HST TA hl ⊢
  clear hnn
  go_enter Try.func101, Try.ntmps101
  go_wp2_with (at_make; refine wpList_make_one _ rfl (.tmp 7) (.tmp 7) 33 rfl 4 (.bool false) rfl 1 Try.underlying33 Try.info4 .i64 .i64 (N : Nat) (N : Nat) N rfl rfl rfl rfl (by omega) (by unfold maxLen; omega) ?_; intro w4 hh4 hb4 hlt4; have M0 := Lib.hid (show MkM w w4 (MK (part.take 0)) from ⟨hb4, by rw [T0.out, bools_replicate]; simpa using hh4⟩); clear hb4 hh4 hlt4)
  go_loopg [6] n (fun fu c wr => ∃ k : Nat, k + fu = n ∧ c = .int .i64 k ∧ Hid (MkM w wr (MK (part.take k))))
  case atStart => exact ⟨0, by omega, rfl, M0⟩
  case round =>
    clear M0
    obtain ⟨k, hk, rfl, HM⟩ := hrel
    by_cases hlt : k < n
    · obtain ⟨b1, o1, rfl, d1⟩ := HP.out k hlt
      have y1 := bkeep HM.out.below d1
      have z1 : (k : Int) < (n : Int) := by omega
      obtain ⟨q, hq, hqN⟩ := HIN.out k hlt
      have HM2 := Lib.hid ((HM.out.set q true).same (HST.out k q hlt hq))
      rw [hq] at y1
      have c0 := HM.out.cell (q := q) (by rw [HML.out]; exact hqN)
      have f0 := HM.out.free q
      have z2 : (q : Int) < (N : Int) := by omega
      clear d1 hq
      go_wp2_with fail
      go_roundg (n - (k + 1))
      case measure => omega
      case rel => exact ⟨k + 1, by omega, by simp, HM2⟩
    · obtain rfl : k = n := by omega
      go_wp2_with fail
      go_ret
      refine ⟨_, rfl, ?_, HM.out.below⟩
      rw [TA.out]
      have e := HML.out (part.take k)
      refine ⟨some ⟨w.heap.size, 0, none⟩, N, by rw [e]; rfl, fun j hj => ⟨_, 0, rfl, ?_⟩⟩
      rw [Nat.zero_add]
      exact HM.out.cell hj
end Go.Proofs.Ytnlaonppgebpoaa

namespace Go.Proofs.Ytnlaonppgebpoaa
open Go.RowKit

theorem goalL_hit {g : Gr} {en : List (List Bool)} {mode : Int} {inl : List Bool} {a k : Nat} (hk : k < (allL g).length) (h : ∀ j, j < k → hitE inl a ((allL g).getD j (0, 0, 0)) = false) (hp : hitE inl a ((allL g).getD k (0, 0, 0)) = true) :
    goalL g en mode inl a = (((allL g).getD k (0, 0, 0)).1, ((allL g).getD k (0, 0, 0)).2.2) := by
  unfold goalL
  rw [find_hit hk h hp]
theorem goalL_idle {g : Gr} {en : List (List Bool)} {inl : List Bool} {a k : Nat} (h : ∀ j, j < (allL g).length → hitE inl a ((allL g).getD j (0, 0, 0)) = false) (hk : k < en.length) (hj : ∀ j, j < k → idleP en inl a j = false) (hp : idleP en inl a k = true) :
    goalL g en 1 inl a = ((k : Int), -1) := by
  unfold goalL
  rw [find_no (d := (0, 0, 0)) h]
  simp only [if_pos, firstN_hit hk hj hp]
theorem goalL_end {g : Gr} {en : List (List Bool)} {inl : List Bool} {a : Nat} (h : ∀ j, j < (allL g).length → hitE inl a ((allL g).getD j (0, 0, 0)) = false) (hj : ∀ j, j < en.length → idleP en inl a j = false) : goalL g en 1 inl a = (-1, -1) := by
  unfold goalL
  rw [find_no (d := (0, 0, 0)) h]
  simp only [if_pos, firstN_none hj]
theorem goalL_other {g : Gr} {en : List (List Bool)} {mode : Int} {inl : List Bool} {a : Nat} (h : ∀ j, j < (allL g).length → hitE inl a ((allL g).getD j (0, 0, 0)) = false) (hm : mode ≠ 1) : goalL g en mode inl a = (-1, -1) := by
  unfold goalL
  rw [find_no (d := (0, 0, 0)) h]
  simp only [if_neg hm]
theorem edn_mem {l : List Ed} {k : Nat} (h : k < l.length) : l.getD k (0, 0, 0) ∈ l := by
  rw [List.getD_eq_getElem?_getD, List.getElem?_eq_getElem h]; simp

set_option maxRecDepth 100000 in
set_option maxHeartbeats 32000000 in
theorem goal_ok (v u mv : Value) (g : Gr) (en : List (List Bool)) (mode : Int) (inl : List Bool) (a A : Nat) (w : World) (h : GraphAt w v g) (hu : BRowsAt w u en) (hm : BoolsAt w mv inl)
    (hE : ∀ e ∈ allL g, 0 ≤ e.1 ∧ e.1 < (inl.length : Int) ∧ 0 ≤ e.2.2 ∧ e.2.2 < (inl.length : Int)) (hlen : inl.length = en.length) (hrows : ∀ i, i < en.length → (en.getD i []).length = A) (ha : a < A) (hel : en.length ≤ 100000) (hal : (allL g).length ≤ 1000000) :
    Calls Try.prog 103 #[v, u, .int .i64 mode, mv, .int .i64 (a : Nat)] w fun e w' => e = .returned (.tuple #[.int .i64 (goalL g en mode inl a).1, .int .i64 (goalL g en mode inl a).2]) ∧ Below w.heap.size w w' := by
  obtain ⟨sa, aa, ta, sc, ac, tc, rfl, -⟩ := h.var
  have hb := balloc w (.cells #[.slice sa g.S.length sc, .slice aa g.A.length ac, .slice ta g.T.length tc] 26)
  have HB := Lib.hid hb
  have X0 := Lib.hid (heap_alloc_new w (.cells #[.slice sa g.S.length sc, .slice aa g.A.length ac, .slice ta g.T.length tc] 26))
  have HAL := Lib.hid (fun (w' : World) (hb : Below w.heap.size w w') => rall_ok _ g w' (h.below hb))
  obtain ⟨ua, uc, rfl, hrow⟩ := hu
  obtain ⟨ma, mc, rfl, hmc⟩ := hm
  have HRW := Lib.hid hrow
  have HMC := Lib.hid hmc
  have HRL := Lib.hid hrows
  have GH := Lib.hid (fun k (hk : k < (allL g).length) hj hp => goalL_hit (g := g) (en := en) (mode := mode) (inl := inl) (a := a) hk hj hp)
  have GI := Lib.hid (fun hh (hmo : mode = 1) k (hk : k < en.length) hj hp => (by rw [hmo]; exact goalL_idle (g := g) (en := en) (inl := inl) (a := a) (k := k) hh hk hj hp : goalL g en mode inl a = ((k : Int), -1)))
  have GE := Lib.hid (fun hh (hmo : mode = 1) hj => (by rw [hmo]; exact goalL_end (g := g) (en := en) (inl := inl) (a := a) hh hj : goalL g en mode inl a = (-1, -1)))
  have GO := Lib.hid (fun hh (hmo : mode ≠ 1) => goalL_other (g := g) (en := en) (mode := mode) (inl := inl) (a := a) hh hmo)
  have EI := Lib.hid (fun k (hk : k < (allL g).length) => hE _ (edn_mem hk))
  have HIT : Hid (∀ e : Ed, hitE inl a e = (decide (e.2.1 = (a : Int)) && (inl.getD e.1.toNat false && inl.getD e.2.2.toNat false))) := Lib.hid (fun e => rfl)
  have IDL : Hid (∀ i, idleP en inl a i = (inl.getD i false && !(en.getD i []).getD a false)) := Lib.hid (fun i => rfl)
  clear h hb hrow hmc hrows hE
  generalize goalL g en mode inl a = RES at *
  generalize hitE inl a = HI at *
  generalize idleP en inl a = ID at *
  generalize allL g = el at *
  rw [hlen] at HMC EI ⊢
  obtain ⟨n, hn⟩ : ∃ n, en.length = n := ⟨_, rfl⟩
  rw [hn] at HRW HRL GI GE HMC EI hel ⊢
  clear hn hlen
  go_enter Try.func103, Try.ntmps103
  go_wp2_with (go_at_call 33; refine (HAL.out _ HB.out).mono ?_; rintro e w1 ⟨rv, rfl, hE, hb1⟩; obtain ⟨ea, ec, rfl, hE⟩ := hE; have HED := Lib.hid hE; have HB1 := Lib.hid (HB.out.trans (hb1.mono HB.out.size)); clear hE hb1)
  go_loopg [13] el.length (fun fu c wr => ∃ k : Nat, k + fu = el.length ∧ c = .int .i64 k ∧ Hid (∀ j, j < k → HI (el.getD j (0, 0, 0)) = false) ∧ Hid (Below w1.heap.size w1 wr))
  case atStart => exact ⟨0, by omega, rfl, Lib.hid (fun j hj => by omega), Lib.hid (Below.refl _ _)⟩
  case round =>
    obtain ⟨k, hk, rfl, HK, HBR⟩ := hrel
    by_cases hlt : k < el.length
    · obtain ⟨b1, o1, rfl, d1, d2, d3⟩ := HED.out k hlt
      have y1 := bkeep HBR.out d1
      have y2 := bkeep HBR.out d2
      have y3 := bkeep HBR.out d3
      have z1 : (k : Int) < (el.length : Int) := by omega
      have hin := EI.out k hlt
      have HH := Lib.hid (fun hp => GH.out k hlt HK.out hp)
      have HN2 : Hid (HI (el.getD k (0, 0, 0)) = false → ∀ j, j < k + 1 → HI (el.getD j (0, 0, 0)) = false) := Lib.hid (fun hne j hj => by
        by_cases e : j = k
        · rw [e]; exact hne
        · exact HK.out j (by omega))
      have HT := Lib.hid (HIT.out (el.getD k (0, 0, 0)))
      have HBW := Lib.hid (HB1.out.trans (HBR.out.mono HB1.out.size))
      clear d1 d2 d3
      generalize el.getD k (0, 0, 0) = ed at *
      obtain ⟨ex, ey, ez⟩ := ed
      simp only at hin y1 y2 y3 HH HT
      obtain ⟨p, rfl⟩ : ∃ q : Nat, ex = (q : Int) := ⟨ex.toNat, by omega⟩
      obtain ⟨r, rfl⟩ : ∃ q : Nat, ez = (q : Int) := ⟨ez.toNat, by omega⟩
      simp only [Int.toNat_natCast] at HT
      have z2 : (p : Int) < (n : Int) := by omega
      have z3 : (r : Int) < (n : Int) := by omega
      obtain ⟨b2, o2, rfl, m1⟩ := HMC.out p (by omega)
      obtain ⟨b3, o3, e3, m2⟩ := HMC.out r (by omega)
      cases e3
      have q1 := bkeep HBW.out m1
      have q2 := bkeep HBW.out m2
      clear m1 m2 hin
      by_cases hy : ey = (a : Int)
      · subst hy
        have hyy : ((a : Int) == (a : Int)) = true := by simp
        rw [decide_eq_true rfl, Bool.true_and] at HT
        cases h1 : inl.getD p false
        · rw [h1] at HT q1
          have E := Lib.hid (HN2.out (by rw [HT.out]; rfl))
          clear h1 q2
          go_wp2_with fail
          go_roundg (el.length - (k + 1))
          case measure => omega
          case rel => exact ⟨k + 1, by omega, by simp, E, HBR⟩
        · rw [h1, Bool.true_and] at HT
          rw [h1] at q1
          cases h2 : inl.getD r false
          · rw [h2] at HT q2
            have E := Lib.hid (HN2.out HT.out)
            clear h1 h2
            go_wp2_with fail
            go_roundg (el.length - (k + 1))
            case measure => omega
            case rel => exact ⟨k + 1, by omega, by simp, E, HBR⟩
          · rw [h2] at HT q2
            have E := Lib.hid (HH.out HT.out)
            clear h1 h2
            go_wp2_with fail
            (refine region_still (by kernel_rfl) (by kernel_rfl) ?_; (repeat still_step); refine wpStill_nil ?_)
            go_wp2_with fail
            refine bodyPost_ret (v := .tuple #[.int .i64 (p : Nat), .int .i64 (r : Nat)]) (by simp [results, Try.results103, go_sem]) rfl ?_
            exact ⟨by rw [E.out], by first | exact HBW.out.drew | exact HBW.out⟩
      · have hyy : (ey == (a : Int)) = false := beq_false_of_ne hy
        rw [decide_eq_false hy, Bool.false_and] at HT
        have E := Lib.hid (HN2.out HT.out)
        clear q1 q2
        go_wp2_with fail
        go_roundg (el.length - (k + 1))
        case measure => omega
        case rel => exact ⟨k + 1, by omega, by simp, E, HBR⟩
    · obtain rfl : k = el.length := by omega
      have GO2 := Lib.hid (fun hmo => GO.out HK.out hmo)
      have GI2 := Lib.hid (fun hmo k hk hj hp => GI.out HK.out hmo k hk hj hp)
      have GE2 := Lib.hid (fun hmo hj => GE.out HK.out hmo hj)
      have HBW := Lib.hid (HB1.out.trans (HBR.out.mono HB1.out.size))
      clear GH GO GI GE
      go_wp2_with fail
      clear HBR HK
      go_loopg [14] n (fun fu c wr => ∃ k : Nat, k + fu = n ∧ c = .int .i64 k ∧ Hid (∀ j, j < k → ID j = false) ∧ Hid (Below w.heap.size w wr) ∧ (0 < k → mode = 1))
      case atStart => exact ⟨0, by omega, rfl, Lib.hid (fun j hj => by omega), HBW, fun q => by omega⟩
      case round =>
        clear HBW
        obtain ⟨k, hk, rfl, HK, HBW, hmo⟩ := hrel
        by_cases hmo1 : mode = 1
        · subst hmo1
          by_cases hlt : k < n
          · have z1 : (k : Int) < (n : Int) := by omega
            obtain ⟨b2, o2, rfl, m1⟩ := HMC.out k hlt
            obtain ⟨b4, o4, uu, rfl, c1, r1⟩ := HRW.out k hlt
            obtain ⟨ra, rc, rfl, hrb⟩ := r1
            have hrl := HRL.out k hlt
            rw [hrl] at c1 hrb
            obtain ⟨b5, o5, rfl, m5⟩ := hrb a ha
            have q1 := bkeep HBW.out m1
            have q2 := bkeep HBW.out c1
            have q3 := bkeep HBW.out m5
            have z2 : (a : Int) < (A : Int) := by omega
            have HN2 : Hid (ID k = false → ∀ j, j < k + 1 → ID j = false) := Lib.hid (fun hne j hj => by
              by_cases e : j = k
              · rw [e]; exact hne
              · exact HK.out j (by omega))
            have HT := Lib.hid (IDL.out k)
            have HG := Lib.hid (fun hp => GI2.out rfl k hlt HK.out hp)
            clear m1 c1 m5 hrb hrl
            cases h1 : inl.getD k false
            · rw [h1] at HT q1
              have E := Lib.hid (HN2.out (by rw [HT.out]; rfl))
              clear h1 q2 q3
              go_wp2_with fail
              go_roundg (n - (k + 1))
              case measure => omega
              case rel => exact ⟨k + 1, by omega, by simp, E, HBW, fun _ => (by first | trivial | rfl)⟩
            · rw [h1, Bool.true_and] at HT
              rw [h1] at q1
              cases h2 : (en.getD k []).getD a false
              · rw [h2] at HT q3
                have E := Lib.hid (HG.out (by rw [HT.out]; rfl))
                clear h1 h2
                go_wp2_with fail
                refine bodyPost_ret (v := .tuple #[.int .i64 (k : Nat), .int .i64 (-1)]) (by simp [results, Try.results103, go_sem]) rfl ?_
                exact ⟨by rw [E.out], HBW.out⟩
              · rw [h2] at HT q3
                have E := Lib.hid (HN2.out (by rw [HT.out]; rfl))
                clear h1 h2
                go_wp2_with fail
                go_roundg (n - (k + 1))
                case measure => omega
                case rel => exact ⟨k + 1, by omega, by simp, E, HBW, fun _ => (by first | trivial | rfl)⟩
          · obtain rfl : k = n := by omega
            have E := Lib.hid (GE2.out rfl HK.out)
            have z1 : ¬ (k : Int) < (k : Int) := by omega
            go_wp2_with fail
            refine bodyPost_ret (v := .tuple #[.int .i64 (-1), .int .i64 (-1)]) (by simp [results, Try.results103, go_sem]) rfl ?_
            exact ⟨by rw [E.out], HBW.out⟩
        · have E := Lib.hid (GO2.out hmo1)
          obtain rfl : k = 0 := by
            rcases Nat.eq_zero_or_pos k with q | q
            · exact q
            · exact absurd (hmo q) hmo1
          have hm1 : (mode == 1) = false := beq_false_of_ne hmo1
          clear hmo HMC HRW
          by_cases hn0 : (0 : Int) < (n : Int)
          · go_wp2_with fail
            refine bodyPost_ret (v := .tuple #[.int .i64 (-1), .int .i64 (-1)]) (by simp [results, Try.results103, go_sem]) rfl ?_
            exact ⟨by rw [E.out], HBW.out⟩
          · go_wp2_with fail
            refine bodyPost_ret (v := .tuple #[.int .i64 (-1), .int .i64 (-1)]) (by simp [results, Try.results103, go_sem]) rfl ?_
            exact ⟨by rw [E.out], HBW.out⟩
end Go.Proofs.Ytnlaonppgebpoaa
