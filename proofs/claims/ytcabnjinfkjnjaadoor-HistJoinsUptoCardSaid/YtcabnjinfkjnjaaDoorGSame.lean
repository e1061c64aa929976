/- GIVEN CONTRACT (this session's): hist.Same (slices.EqualFunc, slices.Equal), in the form in which the print states its own. -/
import Derived.Test.YtcabnjinfkjnjaaDoorGRight
import Derived.Test.YtcabnjinfkjnjaaDoorXHx2
namespace Go.Proofs.YtcabnjinfkjnjaaDoor.XH
open Go.RowKit Go.Proofs.YtcabnjinfkjnjaaDoorW.PrintWords Go.Proofs.YtcabnjinfkjnjaaDoorW.PrintLast Go.Proofs.YtcabnjinfkjnjaaDoorW.PrintMore Go.Proofs.YtcabnjinfkjnjaaDoor.X
set_option linter.unusedVariables false
attribute [local go_sem high] eqA61

def eqOp (x y : S61) : Bool := x.f0 == y.f0 && (x.f1.toList == y.f1.toList && (x.f2 == y.f2))
def DrawnPost (b : Bool) (w : World) (e : Ending) (w' : World) : Prop := e = .returned (.bool b) ∧ ∃ n, w' = w.drewN n
def allEq : List S61 → List S61 → Bool
  | [], [] => true
  | x :: l, y :: r => eqOp x y && allEq l r
  | _, _ => false
theorem allEq_len : ∀ l r : List S61, l.length ≠ r.length → allEq l r = false
  | [], [], h => absurd rfl h
  | [], _ :: _, _ => rfl
  | _ :: _, [], _ => rfl
  | x :: l, y :: r, h => by
    unfold allEq
    rw [allEq_len l r (fun e => h (by simp [e])), Bool.and_false]
theorem allEq_true : ∀ l r : List S61, l.length = r.length → (∀ j, j < l.length → eqOp (rd_T61 l (j : Int)) (rd_T61 r (j : Int)) = true) → allEq l r = true
  | [], [], _, _ => rfl
  | [], _ :: _, h, _ => by cases h
  | _ :: _, [], h, _ => by cases h
  | x :: l, y :: r, h, hj => by
    unfold allEq
    have h0 := hj 0 (by simp)
    have hl : l.length = r.length := by simpa using h
    have h1 := allEq_true l r hl (fun j hjl => by
      have := hj (j + 1) (by simp; omega)
      rw [rd_T61n _ (by simp; omega), rd_T61n _ (by simp; omega)] at this
      rw [rd_T61n _ hjl, rd_T61n _ (by omega)]
      simpa using this)
    rw [rd_T61n _ (by simp), rd_T61n _ (by simp)] at h0
    rw [h1]
    simpa using h0
theorem allEq_false : ∀ (l r : List S61) (j : Nat), l.length = r.length → j < l.length → eqOp (rd_T61 l (j : Int)) (rd_T61 r (j : Int)) = false → allEq l r = false
  | [], _, j, _, h, _ => absurd h (Nat.not_lt_zero _)
  | _ :: _, [], _, h, _, _ => by cases h
  | x :: l, y :: r, 0, h, _, hj => by
    unfold allEq
    rw [rd_T61n _ (by simp), rd_T61n _ (by simp)] at hj
    rw [show eqOp x y = false from by simpa using hj, Bool.false_and]
  | x :: l, y :: r, j + 1, h, hl, hj => by
    unfold allEq
    have hlen : l.length = r.length := by simpa using h
    have hl' : j < l.length := by simpa using hl
    rw [rd_T61n _ (by simp; omega), rd_T61n _ (by simp; omega)] at hj
    rw [allEq_false l r j hlen hl' (by rw [rd_T61n _ hl', rd_T61n _ (by omega)]; simpa using hj), Bool.and_false]
theorem drawn_more {w wr : World} (h : ∃ n, wr = w.drewN n) (m : Nat) : ∃ n, wr.drewN m = w.drewN n := by
  obtain ⟨n, rfl⟩ := h
  exact ⟨n + m, (World.drewN_drewN ..)⟩
theorem drawn_trans {w wr w2 : World} (h : ∃ n, wr = w.drewN n) (h2 : ∃ n, w2 = wr.drewN n) : ∃ n, w2 = w.drewN n := by
  obtain ⟨m, rfl⟩ := h2
  exact drawn_more h m
theorem C_drewn {A : Option Addr} {l : List S61} {w : World} {n : Nat} (h : k61.C w A l.length l) : k61.C (w.drewN n) A l.length l := Kd.C_below h (pw_below_drewN (Below.refl _ _) n)
set_option maxRecDepth 100000 in
set_option maxHeartbeats 4000000 in
theorem equal_any (A : Option Addr) (c : Nat) (l : List S61) (A' : Option Addr) (c' : Nat) (r : List S61) (w : World) (hC : k61.C w A l.length l) (hC' : k61.C w A' r.length r) : Calls Tryd.prog 73 #[.slice A l.length c, .slice A' r.length c'] w (DrawnPost (allEq l r) w) := by
  have hbig : l.length ≤ 9223372036854775807 := hC.2.1
  have hbig' : r.length ≤ 9223372036854775807 := hC'.2.1
  have HC := Lib.hid hC
  have HC' := Lib.hid hC'
  clear hC hC'
  by_cases hl : l.length = r.length
  · have h1 : ((l.length : Int) == (r.length : Int)) = true := by rw [beq_iff_eq]; omega
    have h2 : ((l.length : Int) != (r.length : Int)) = false := by rw [bne_eq_false_iff_eq]; omega
    have HL := Lib.hid hl
    clear hl
    go_enter Tryd.func73, Tryd.ntmps73
    go_wp2
    go_loopw [13] (fun i wr => ∃ k : Nat, k ≤ l.length ∧ i = .int .i64 k ∧ Aside0 (∀ j, j < k → eqOp (rd_T61 l (j : Int)) (rd_T61 r (j : Int)) = true) ∧ Aside0 (∃ n, wr = w.drewN n)) (fun i _ => l.length - (intOf i).toNat)
    case atStart => exact ⟨0, Nat.zero_le _, rfl, ⟨fun j hj => absurd hj (Nat.not_lt_zero _)⟩, ⟨0, rfl⟩⟩
    case round =>
      obtain ⟨k, hk, rfl, HN, HD⟩ := hrel
      by_cases hlt : k < l.length
      · have hCw : k61.C wr A l.length l := by obtain ⟨n, e⟩ := HD.out; rw [e]; exact C_drewn HC.out
        have hCw' : k61.C wr A' r.length r := by obtain ⟨n, e⟩ := HD.out; rw [e]; exact C_drewn HC'.out
        have hlt' : k < r.length := by have := HL.out; omega
        obtain ⟨ad, rfl, hc0, hc1, hc2⟩ := at_T61n _ A l.length l hCw k hlt
        obtain ⟨ad', rfl, hd0, hd1, hd2⟩ := at_T61n _ A' r.length r hCw' k hlt'
        clear hCw hCw'
        obtain ⟨y, hy⟩ : ∃ y, rd_T61 r (k : Int) = y := ⟨_, rfl⟩
        obtain ⟨x, hx⟩ : ∃ x, rd_T61 l (k : Int) = x := ⟨_, rfl⟩
        rw [hx] at hc0 hc1 hc2
        rw [hy] at hd0 hd1 hd2
        have HX := Lib.hid hx
        have HY := Lib.hid hy
        clear hx hy
        cases hz : eqOp x y with
        | true =>
          have hz1 : (x.f0 == y.f0 && (x.f1.toList == y.f1.toList && (x.f2 == y.f2))) = true := hz
          have hz2 : (!(x.f0 == y.f0) || (!(x.f1.toList == y.f1.toList) || !(x.f2 == y.f2))) = false := by rw [← Bool.not_and, ← Bool.not_and, hz1]; rfl
          have HZ := Lib.hid hz
          clear hz
          go_wp2
          go_quiet (fail)
          have HD2 := Lib.hid (drawn_more HD.out nq)
          clear HD
          go_wp2
          go_roundw
          case rel =>
            refine ⟨k + 1, by omega, by go_num, ⟨fun j hj => ?_⟩, ⟨HD2.out⟩⟩
            rcases Nat.lt_or_ge j k with h1 | h1
            · exact HN.out j h1
            · rw [show j = k by omega, HX.out, HY.out]; exact HZ.out
          case measure => simp [intOf]; omega
        | false =>
          have hz1 : (x.f0 == y.f0 && (x.f1.toList == y.f1.toList && (x.f2 == y.f2))) = false := hz
          have hz2 : (!(x.f0 == y.f0) || (!(x.f1.toList == y.f1.toList) || !(x.f2 == y.f2))) = true := by rw [← Bool.not_and, ← Bool.not_and, hz1]; rfl
          have HZ := Lib.hid (allEq_false l r k HL.out hlt (by rw [HX.out, HY.out]; exact hz))
          clear hz
          go_wp2
          go_quiet (fail)
          have HD2 := Lib.hid (drawn_more HD.out nq)
          clear HD
          go_wp2
          go_ret
          exact ⟨congrArg (fun b => Ending.returned (.bool b)) HZ.out.symm, HD2.out⟩
      · obtain rfl : k = l.length := by omega
        have HZ := Lib.hid (allEq_true l r HL.out HN.out)
        go_wp2
        go_ret
        exact ⟨congrArg (fun b => Ending.returned (.bool b)) HZ.out.symm, HD.out⟩
  · have h1 : ((l.length : Int) == (r.length : Int)) = false := by rw [beq_eq_false_iff_ne]; omega
    have h2 : ((l.length : Int) != (r.length : Int)) = true := by rw [bne_iff_ne]; omega
    rw [allEq_len l r hl]
    clear hl
    go_enter Tryd.func73, Tryd.ntmps73
    go_wp2
    go_ret
    exact ⟨rfl, 0, rfl⟩

theorem below_of_drawn {w w' : World} (h : ∃ n, w' = w.drewN n) : Below w.heap.size w w' := (Drawn0.mk h).below
set_option maxHeartbeats 1000000 in
theorem same1_any (A : Option Addr) (c : Nat) (l : List S61) (A' : Option Addr) (c' : Nat) (r : List S61) (w : World) (hC : k61.C w A l.length l) (hC' : k61.C w A' r.length r) : Calls Tryd.prog 72 #[.slice A l.length c, .slice A' r.length c'] w (DrawnPost (allEq l r) w) := by
  have C := Lib.hid (equal_any A c l A' c' r w hC hC')
  clear hC hC'
  go_enter Tryd.func72, Tryd.ntmps72
  go_wp2_with (go_at_call 73; refine C.out.mono ?_; rintro e w2 ⟨rfl, hB⟩; have HB := Lib.hid hB; clear hB)
  go_ret
  exact ⟨rfl, HB.out⟩
def sameV : List (List S61) → List (List S61) → Bool
  | [], [] => true
  | x :: l, y :: r => allEq x y && sameV l r
  | _, _ => false
theorem rd_L4n (l : List (List S61)) {k : Nat} (h : k < l.length) : rd_L4 l (k : Int) = l[k] := by
  unfold rd_L4
  rw [Int.toNat_natCast, List.getD_eq_getElem?_getD, List.getElem?_eq_getElem h]
  rfl
theorem sameV_len : ∀ l r : List (List S61), l.length ≠ r.length → sameV l r = false
  | [], [], h => absurd rfl h
  | [], _ :: _, _ => rfl
  | _ :: _, [], _ => rfl
  | x :: l, y :: r, h => by
    unfold sameV
    rw [sameV_len l r (fun e => h (by simp [e])), Bool.and_false]
theorem sameV_true : ∀ l r : List (List S61), l.length = r.length → (∀ j, j < l.length → allEq (rd_L4 l (j : Int)) (rd_L4 r (j : Int)) = true) → sameV l r = true
  | [], [], _, _ => rfl
  | [], _ :: _, h, _ => by cases h
  | _ :: _, [], h, _ => by cases h
  | x :: l, y :: r, h, hj => by
    unfold sameV
    have h0 := hj 0 (by simp)
    have hl : l.length = r.length := by simpa using h
    have h1 := sameV_true l r hl (fun j hjl => by
      have := hj (j + 1) (by simp; omega)
      rw [rd_L4n _ (by simp; omega), rd_L4n _ (by simp; omega)] at this
      rw [rd_L4n _ hjl, rd_L4n _ (by omega)]
      simpa using this)
    rw [rd_L4n _ (by simp), rd_L4n _ (by simp)] at h0
    rw [h1]
    simpa using h0
theorem sameV_false : ∀ (l r : List (List S61)) (j : Nat), l.length = r.length → j < l.length → allEq (rd_L4 l (j : Int)) (rd_L4 r (j : Int)) = false → sameV l r = false
  | [], _, j, _, h, _ => absurd h (Nat.not_lt_zero _)
  | _ :: _, [], _, h, _, _ => by cases h
  | x :: l, y :: r, 0, h, _, hj => by
    unfold sameV
    rw [rd_L4n _ (by simp), rd_L4n _ (by simp)] at hj
    rw [show allEq x y = false from by simpa using hj, Bool.false_and]
  | x :: l, y :: r, j + 1, h, hl, hj => by
    unfold sameV
    have hlen : l.length = r.length := by simpa using h
    have hl' : j < l.length := by simpa using hl
    rw [rd_L4n _ (by simp; omega), rd_L4n _ (by simp; omega)] at hj
    rw [sameV_false l r j hlen hl' (by rw [rd_L4n _ hl', rd_L4n _ (by omega)]; simpa using hj), Bool.and_false]
theorem LC_drewn {A : Option Addr} {l : List (List S61)} {w : World} {n : Nat} (h : (Kd.slice 61 k61).C w A l.length l) : (Kd.slice 61 k61).C (w.drewN n) A l.length l := Kd.C_below h (pw_below_drewN (Below.refl _ _) n)
set_option maxRecDepth 100000 in
set_option maxHeartbeats 4000000 in
theorem equalFunc_any (A : Option Addr) (c : Nat) (l : List (List S61)) (A' : Option Addr) (c' : Nat) (r : List (List S61)) (w : World) (hC : (Kd.slice 61 k61).C w A l.length l) (hC' : (Kd.slice 61 k61).C w A' r.length r) : Calls Tryd.prog 71 #[.slice A l.length c, .slice A' r.length c', .func (.func 72) #[] #[]] w (DrawnPost (sameV l r) w) := by
  have hbig : l.length ≤ 9223372036854775807 := hC.2.1
  have hbig' : r.length ≤ 9223372036854775807 := hC'.2.1
  have HC := Lib.hid hC
  have HC' := Lib.hid hC'
  clear hC hC'
  by_cases hl : l.length = r.length
  · have h1 : ((l.length : Int) == (r.length : Int)) = true := by rw [beq_iff_eq]; omega
    have h2 : ((l.length : Int) != (r.length : Int)) = false := by rw [bne_eq_false_iff_eq]; omega
    have HL := Lib.hid hl
    clear hl
    go_enter Tryd.func71, Tryd.ntmps71
    go_wp2
    go_loopw [17] (fun i wr => ∃ k : Nat, k ≤ l.length ∧ i = .int .i64 k ∧ Aside0 (∀ j, j < k → allEq (rd_L4 l (j : Int)) (rd_L4 r (j : Int)) = true) ∧ Aside0 (∃ n, wr = w.drewN n)) (fun i _ => l.length - (intOf i).toNat)
    case atStart => exact ⟨0, Nat.zero_le _, rfl, ⟨fun j hj => absurd hj (Nat.not_lt_zero _)⟩, ⟨0, rfl⟩⟩
    case round =>
      obtain ⟨k, hk, rfl, HN, HD⟩ := hrel
      by_cases hlt : k < l.length
      · have hCw : (Kd.slice 61 k61).C wr A l.length l := by obtain ⟨n, e⟩ := HD.out; rw [e]; exact LC_drewn HC.out
        have hCw' : (Kd.slice 61 k61).C wr A' r.length r := by obtain ⟨n, e⟩ := HD.out; rw [e]; exact LC_drewn HC'.out
        have hlt' : k < r.length := by have := HL.out; omega
        obtain ⟨ad, B, d, rfl, hc0, hc1, hc2⟩ := at_L4n _ A l.length l hCw k hlt
        obtain ⟨ad', B', d', rfl, hd0, hd1, hd2⟩ := at_L4n _ A' r.length r hCw' k hlt'
        have CE := Lib.hid (same1_any B d _ B' d' _ wr hc2 hd2)
        clear hCw hCw' hc2 hd2
        cases hz : allEq (rd_L4 l (k : Int)) (rd_L4 r (k : Int)) with
        | true =>
          have C2 := Lib.hid (show Calls Tryd.prog 72 #[.slice B (rd_L4 l (k : Int)).length d, .slice B' (rd_L4 r (k : Int)).length d'] wr (DrawnPost true wr) from by rw [← hz]; exact CE.out)
          have HZ := Lib.hid hz
          clear hz CE
          go_wp2_with (go_at_call 72; refine C2.out.mono ?_; rintro e w2 ⟨rfl, hB⟩; have HD2 := Lib.hid (drawn_trans HD.out hB); clear HD hB)
          go_roundw
          case rel =>
            refine ⟨k + 1, by omega, by go_num, ⟨fun j hj => ?_⟩, ⟨HD2.out⟩⟩
            rcases Nat.lt_or_ge j k with h1 | h1
            · exact HN.out j h1
            · rw [show j = k by omega]; exact HZ.out
          case measure => simp [intOf]; omega
        | false =>
          have C2 := Lib.hid (show Calls Tryd.prog 72 #[.slice B (rd_L4 l (k : Int)).length d, .slice B' (rd_L4 r (k : Int)).length d'] wr (DrawnPost false wr) from by rw [← hz]; exact CE.out)
          have HZ := Lib.hid (sameV_false l r k HL.out hlt hz)
          clear hz CE
          go_wp2_with (go_at_call 72; refine C2.out.mono ?_; rintro e w2 ⟨rfl, hB⟩; have HD2 := Lib.hid (drawn_trans HD.out hB); clear HD hB)
          go_ret
          exact ⟨congrArg (fun b => Ending.returned (.bool b)) HZ.out.symm, HD2.out⟩
      · obtain rfl : k = l.length := by omega
        have HZ := Lib.hid (sameV_true l r HL.out HN.out)
        go_wp2
        go_ret
        exact ⟨congrArg (fun b => Ending.returned (.bool b)) HZ.out.symm, HD.out⟩
  · have h1 : ((l.length : Int) == (r.length : Int)) = false := by rw [beq_eq_false_iff_ne]; omega
    have h2 : ((l.length : Int) != (r.length : Int)) = true := by rw [bne_iff_ne]; omega
    rw [sameV_len l r hl]
    clear hl
    go_enter Tryd.func71, Tryd.ntmps71
    go_wp2
    go_ret
    exact ⟨rfl, 0, rfl⟩
def hist_Same.f (a b : List (List S61)) : Option Bool := some (sameV a b)
set_option maxHeartbeats 1000000 in
theorem same_any (A : Option Addr) (c : Nat) (l : List (List S61)) (A' : Option Addr) (c' : Nat) (r : List (List S61)) (w : World) (hC : (Kd.slice 61 k61).C w A l.length l) (hC' : (Kd.slice 61 k61).C w A' r.length r) : Calls Tryd.prog 40 #[.slice A l.length c, .slice A' r.length c'] w (DrawnPost (sameV l r) w) := by
  have C := Lib.hid (equalFunc_any A c l A' c' r w hC hC')
  clear hC hC'
  go_enter Tryd.func40, Tryd.ntmps40
  go_wp2_with (go_at_call 71; refine C.out.mono ?_; rintro e w2 ⟨rfl, hB⟩; have HB := Lib.hid hB; clear hB)
  go_ret
  exact ⟨rfl, HB.out⟩
theorem hist_Same.calls (A0 : Option Addr) (c0 : Nat) (l0 : List (List S61)) (A1 : Option Addr) (c1 : Nat) (l1 : List (List S61)) (r : Bool) (w : World) (hr0 : Kd.C (Kd.slice 61 k61) w A0 l0.length l0) (hc0 : l0.length ≤ c0) (hr1 : Kd.C (Kd.slice 61 k61) w A1 l1.length l1) (hc1 : l1.length ≤ c1) (h : hist_Same.f l0 l1 = some r) :
    Calls Tryd.prog 40 #[.slice A0 l0.length c0, .slice A1 l1.length c1] w fun e w' => e = .returned (.bool r) ∧ Below w.heap.size w w' := by
  rw [← Option.some.inj h]
  exact (same_any A0 c0 l0 A1 c1 l1 w hr0 hr1).mono fun e w' ⟨he, hd⟩ => ⟨he, below_of_drawn hd⟩
end Go.Proofs.YtcabnjinfkjnjaaDoor.XH
