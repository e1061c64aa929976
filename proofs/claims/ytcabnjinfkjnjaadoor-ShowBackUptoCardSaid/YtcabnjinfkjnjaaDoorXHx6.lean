-- Written by a program of this session (xprint.py over the kit's print): functions, their contracts, laws.
import Derived.Test.YtcabnjinfkjnjaaDoorXHx0
import Derived.Test.YtcabnjinfkjnjaaDoorXHf5
import Derived.Test.YtcabnjinfkjnjaaDoorGNum
namespace Go.Proofs.YtcabnjinfkjnjaaDoor.XH
open Go.RowKit Go.Proofs.YtcabnjinfkjnjaaDoorW.PrintWords Go.Proofs.YtcabnjinfkjnjaaDoorW.PrintLast Go.Proofs.YtcabnjinfkjnjaaDoorW.PrintMore Go.Proofs.YtcabnjinfkjnjaaDoor.X
attribute [local go_sem] max2_int min2_int max_two min_two max_three min_three max_four min_four   -- for this text's walks alone
set_option linter.unusedVariables false
set_option linter.unusedSimpArgs false

/-! ### eyewitnessref06_Small: function 27 -/
mutual
def eyewitnessref06_Small.j0 : Nat → List (List (S61)) → Bool → Option (Bool)
  | 0, _, _ => none
  | k + 1, x0, x16 => if x16 = true then (some false) else ((eyewitnessref06_Flat.f k x0).bind fun t220 => (eyewitnessref06_Small.l0 k t220 0))
def eyewitnessref06_Small.l0 : Nat → List (S61) → Int → Option (Bool)
  | 0, _, _ => none
  | k + 1, x5, x6 => if x6 < (x5.length : Int) then (if 0 ≤ x6 then (if (((rd_T61 x5 x6).f1).size : Int) > 20 then (some false) else (eyewitnessref06_Small.l0 k x5 (wrap64 (x6 + 1)))) else (none)) else (some true)
end
def eyewitnessref06_Small.f (k : Nat) (l0 : List (List (S61))) (a1 : Int) : Option (Bool) := if (l0.length : Int) > a1 then (eyewitnessref06_Small.j0 k l0 true) else ((eyewitnessref06_Count.f k l0).bind fun t219 => (eyewitnessref06_Small.j0 k l0 (decide (t219 > a1))))
theorem eyewitnessref06_Small.mono_l : ∀ k, (∀ y0 y1, LeO (eyewitnessref06_Small.j0 k y0 y1) (eyewitnessref06_Small.j0 (k + 1) y0 y1)) ∧ (∀ y0 y1, LeO (eyewitnessref06_Small.l0 k y0 y1) (eyewitnessref06_Small.l0 (k + 1) y0 y1))
  | 0 => ⟨fun _ _ r h => by simp [eyewitnessref06_Small.j0] at h, fun _ _ r h => by simp [eyewitnessref06_Small.l0] at h⟩
  | k + 1 => by
    obtain ⟨ih0, ih1⟩ := eyewitnessref06_Small.mono_l k
    refine ⟨?_, ?_⟩
    · intro y0 y1
      unfold eyewitnessref06_Small.j0
      repeat' first
      | (with_reducible exact ih0 _ _)
      | (with_reducible exact ih1 _ _)
      | (with_reducible exact eyewitnessref06_Count.mono _ _)
      | (with_reducible exact eyewitnessref06_Flat.mono _ _)
      | (with_reducible exact LeO.refl _)
      | (with_reducible exact LeO.none _)
      | (with_reducible refine LeO.ite ?_ ?_)
      | (with_reducible refine LeO.bind ?_ (fun _ => ?_))
      | exact ih0 _ _
      | exact ih1 _ _
      | exact eyewitnessref06_Count.mono _ _
      | exact eyewitnessref06_Flat.mono _ _
      | exact LeO.none _
      | refine LeO.ite ?_ ?_
      | refine LeO.bind ?_ (fun _ => ?_)
    · intro y0 y1
      unfold eyewitnessref06_Small.l0
      repeat' first
      | (with_reducible exact ih0 _ _)
      | (with_reducible exact ih1 _ _)
      | (with_reducible exact eyewitnessref06_Count.mono _ _)
      | (with_reducible exact eyewitnessref06_Flat.mono _ _)
      | (with_reducible exact LeO.refl _)
      | (with_reducible exact LeO.none _)
      | (with_reducible refine LeO.ite ?_ ?_)
      | (with_reducible refine LeO.bind ?_ (fun _ => ?_))
      | exact ih0 _ _
      | exact ih1 _ _
      | exact eyewitnessref06_Count.mono _ _
      | exact eyewitnessref06_Flat.mono _ _
      | exact LeO.none _
      | refine LeO.ite ?_ ?_
      | refine LeO.bind ?_ (fun _ => ?_)
theorem eyewitnessref06_Small.mono : ∀ a0 a1 k, LeO (eyewitnessref06_Small.f k a0 a1) (eyewitnessref06_Small.f (k + 1) a0 a1) := by
  intro a0 a1 k
  obtain ⟨ih0, ih1⟩ := eyewitnessref06_Small.mono_l k
  unfold eyewitnessref06_Small.f
  repeat' first
      | (with_reducible exact ih0 _ _)
      | (with_reducible exact ih1 _ _)
      | (with_reducible exact eyewitnessref06_Count.mono _ _)
      | (with_reducible exact eyewitnessref06_Flat.mono _ _)
      | (with_reducible exact LeO.refl _)
      | (with_reducible exact LeO.none _)
      | (with_reducible refine LeO.ite ?_ ?_)
      | (with_reducible refine LeO.bind ?_ (fun _ => ?_))
      | exact ih0 _ _
      | exact ih1 _ _
      | exact eyewitnessref06_Count.mono _ _
      | exact eyewitnessref06_Flat.mono _ _
      | exact LeO.none _
      | refine LeO.ite ?_ ?_
      | refine LeO.bind ?_ (fun _ => ?_)
set_option maxHeartbeats 8000000 in
set_option maxRecDepth 100000 in
theorem eyewitnessref06_Small.calls (k : Nat) (A0 : Option Addr) (c0 : Nat) (l0 : List (List (S61))) (a1 : Int) (r : Bool) (w : World) (hr0 : Kd.C (Kd.slice 61 k61) w A0 l0.length l0) (hc0 : l0.length ≤ c0) (h : eyewitnessref06_Small.f k l0 a1 = some r) :
    Calls Tryd.prog 27 #[.slice A0 l0.length c0, .int .i64 a1] w fun e w' => e = .returned (.bool r) ∧ Below w.heap.size w w' := by
  have HR0 := Aside0.mk hr0
  have HC0 := Aside0.mk hc0
  clear hr0 hc0
  have HB := Aside0.mk (Below.refl w.heap.size w)
  have H : (if (l0.length : Int) > a1 then (eyewitnessref06_Small.j0 k l0 true) else ((eyewitnessref06_Count.f k l0).bind fun t219 => (eyewitnessref06_Small.j0 k l0 (decide (t219 > a1))))) = some r := h
  clear h
  have HC3 := Aside0.mk H
  clear H
  go_enter Tryd.func27, Tryd.ntmps27
  go_upto_region 1 with (fail)
  go_cut [16] (fun v16 wc => ∃ (kq : Nat) (x16_2 : Bool), v16 = .bool x16_2 ∧ Aside0 (eyewitnessref06_Small.j0 kq l0 x16_2 = some r) ∧ Aside0 (kq ≤ k) ∧ Aside0 (Below w.heap.size w wc))
  case first =>
    have H := HC3.out
    clear HC3
    by_cases c4 : (l0.length : Int) > a1
    · rw [if_pos c4] at H
      have c4b0 : decide (a1 < (l0.length : Int)) = true := decide_eq_true c4
      clear c4
      (first | rw [c4b0] | rw [c4b1] | (simp only [i64_w, i32_w]; rw [c4b0]) | skip)
      have H' := Aside0.mk H
      clear H
      go_wp2
      go_meet
      case rel => exact ⟨_, (true), (by first | rfl | (simp; done) | (simp [*]; done)), H', ⟨by first | omega | exact Nat.le_refl _⟩, ⟨by repeat (first | (with_reducible first | exact HB.out | apply below_alloc | apply pw_below_drewN | apply below_drew1) | exact HB.out)⟩⟩
    · rw [if_neg c4] at H
      have c4b0 : decide (a1 < (l0.length : Int)) = false := decide_eq_false c4
      clear c4
      (first | rw [c4b0] | rw [c4b1] | (simp only [i64_w, i32_w]; rw [c4b0]) | skip)
      replace H := Option.bind_eq_some_iff.mp H
      obtain ⟨t219, A50, H⟩ := H
      replace H : (eyewitnessref06_Small.j0 k l0 (decide (t219 > a1))) = some r := H
      have A5 := Aside0.mk A50
      clear A50
      have H' := Aside0.mk H
      clear H
      go_wp2_with (first | (go_at_call 37; (with_reducible refine (eyewitnessref06_Count.calls k _ _ l0 t219 _ ?side1 ?side2 A5.out).mono ?_); (case side1 => repeat (first | exact (Kd.C_below HR0.out HB.out) | (with_reducible refine Kd.C_alloc ?_ _) | (with_reducible refine Kd.C_drewN ?_ _) | (with_reducible refine Kd.C_drew ?_))); (case side2 => exact HC0.out); rintro e w6 ⟨rfl, hb⟩; have n0_ := Aside0.mk (below_step (by repeat (first | (with_reducible first | exact HB.out | apply below_alloc | apply pw_below_drewN | apply below_drew1) | exact HB.out)) hb); clear HB; have HB := n0_; clear n0_; (try clear hb); (try clear hb2); (try clear hk); (try clear hi)))
      go_meet
      case rel => exact ⟨_, (decide (t219 > a1)), (by first | rfl | (simp; done) | (simp [*]; done)), H', ⟨by first | omega | exact Nat.le_refl _⟩, ⟨by repeat (first | (with_reducible first | exact HB.out | apply below_alloc | apply pw_below_drewN | apply below_drew1) | exact HB.out)⟩⟩
  case rest =>
    clear HC3
    try clear c2
    try clear p2
    try clear c4
    try clear c4b0
    obtain ⟨kq, x16_2, rfl, HA, HJ2, HB⟩ := hcut
    cases kq with
    | zero => exact absurd HA.out (by simp [eyewitnessref06_Small.j0])
    | succ kj2 =>
      have H := HA.out
      clear HA
      simp only [eyewitnessref06_Small.j0] at H
      by_cases c7 : x16_2 = true
      · subst c7
        have H1 : (some false) = some r := by rw [if_pos rfl] at H; exact H
        clear H
        have H := H1
        clear H1
        obtain rfl := Option.some.inj H
        go_wp2
        go_ret
        exact ⟨by first | rfl | (simp [errW_none, errW_some] <;> rfl) | (simp [*, errW_none, errW_some] <;> rfl), by repeat (first | (with_reducible first | exact HB.out | apply below_alloc | apply pw_below_drewN | apply below_drew1) | exact HB.out)⟩
      · replace c7 := Bool.eq_false_iff.mpr c7
        subst c7
        have H1 : ((eyewitnessref06_Flat.f kj2 l0).bind fun t220 => (eyewitnessref06_Small.l0 kj2 t220 0)) = some r := by rw [if_neg (show ¬ (false = true) by decide)] at H; exact H
        clear H
        have H := H1
        clear H1
        replace H := Option.bind_eq_some_iff.mp H
        obtain ⟨t220, A80, H⟩ := H
        replace H : (eyewitnessref06_Small.l0 kj2 t220 0) = some r := H
        have A8 := Aside0.mk A80
        clear A80
        have H' := Aside0.mk H
        clear H
        go_wp2_with (first | ((with_reducible refine gate_callee (f := 39) rfl ?_); refine goesL_ (some 18) rfl rfl Tryd.func39 (by kernel_rfl) rfl #[.slice A0 l0.length c0] rfl (by (try simp only [List.map_toArray, List.map_cons, List.map_nil]); first | done | rfl | (simp only [List.length_drop, List.length_take]; rfl)) ?_; (with_reducible refine (eyewitnessref06_Flat.calls kj2 _ _ l0 t220 _ ?side1 ?side2 A8.out).mono ?_); (case side1 => repeat (first | exact (Kd.C_below HR0.out HB.out) | (with_reducible refine Kd.C_alloc ?_ _) | (with_reducible refine Kd.C_drewN ?_ _) | (with_reducible refine Kd.C_drew ?_))); (case side2 => exact HC0.out); rintro e w9 ⟨v221, rfl, ho0, hb⟩; refine ⟨_, rfl, ?_⟩; have n0_ := Aside0.mk (Kd.R_lower ho0 (below_size (by repeat (first | (with_reducible first | exact HB.out | apply below_alloc | apply pw_below_drewN | apply below_drew1) | exact HB.out)))); have n1_ := Aside0.mk (below_step (by repeat (first | (with_reducible first | exact HB.out | apply below_alloc | apply pw_below_drewN | apply below_drew1) | exact HB.out)) hb); clear HB; have HO222 := n0_; have HB := n1_; clear n0_ n1_; (try clear hb); (try clear hb2); (try clear hk); (try clear hi); (try clear ho0)))
        go_loopg [6] kj2 (fun kq v6 w' => ∃ (x6_2 : Int), v6 = .int .i64 x6_2 ∧ Aside0 (eyewitnessref06_Small.l0 kq t220 x6_2 = some r) ∧ Aside0 (kq ≤ kj2) ∧ Aside0 (Kd.R k61 61 w' w.heap.size (fun _ => True) v221 t220) ∧ Aside0 (Below w.heap.size w w'))
        case atStart => exact ⟨(0), (by first | rfl | (simp; done) | (simp [*]; done)), H', ⟨Nat.le_refl _⟩, ⟨by (with_reducible repeat (first | apply Kd.R_alloc | apply Kd.R_drewN | apply Kd.R_drew)); exact HO222.out⟩, ⟨by repeat (first | (with_reducible first | exact HB.out | apply below_alloc | apply pw_below_drewN | apply below_drew1) | exact HB.out)⟩⟩
        case round =>
          clear H'
          try clear c2
          try clear p2
          try clear c3
          try clear c4
          try clear c4b0
          try clear c7
          try clear p2
          obtain ⟨x6_2, rfl, HA, HK2, HO_5, HB⟩ := hrel
          cases gk with
          | zero => exact absurd HA.out (by simp [eyewitnessref06_Small.l0])
          | succ k2 =>
            have H := HA.out
            clear HA
            simp only [eyewitnessref06_Small.l0] at H
            by_cases c10 : x6_2 < (t220.length : Int)
            · rw [if_pos c10] at H
              have c10b0 : decide (x6_2 < (t220.length : Int)) = true := decide_eq_true c10
              clear c10
              by_cases c11 : 0 ≤ x6_2
              · rw [if_pos c11] at H
                have c11b0 : decide (0 ≤ x6_2) = true := decide_eq_true c11
                clear c11
                by_cases c12 : (((rd_T61 t220 x6_2).f1).size : Int) > 20
                · rw [if_pos c12] at H
                  have c12b0 : decide (20 < (((rd_T61 t220 x6_2).f1).size : Int)) = true := decide_eq_true c12
                  have c12b1 : decide (20 < ((rd_T61 t220 x6_2).f1).size) = true := decide_eq_true (by omega)
                  clear c12
                  obtain rfl := Option.some.inj H
                  obtain ⟨Ao13, co13, eo13⟩ := Kd.R_slice HO_5.out
                  subst eo13
                  have p223 : 0 ≤ (x6_2 : Int) := of_decide_eq_true (by first | (with_reducible assumption) | assumption)
                  have q223 : x6_2 < (t220.length : Int) := of_decide_eq_true (by first | (with_reducible assumption) | assumption)
                  obtain ⟨ad223, e223, hx223_0, hx223_1, hx223_2⟩ := at_T61 (Kd.R_reads' HO_5.out).2.2 x6_2 p223 q223
                  cases e223
                  replace p223 := eq_true p223
                  replace q223 := eq_true q223
                  go_wp2
                  go_ret
                  exact ⟨by first | rfl | (simp [errW_none, errW_some] <;> rfl) | (simp [*, errW_none, errW_some] <;> rfl), by repeat (first | (with_reducible first | exact HB.out | apply below_alloc | apply pw_below_drewN | apply below_drew1) | exact HB.out)⟩
                · rw [if_neg c12] at H
                  have c12b0 : decide (20 < (((rd_T61 t220 x6_2).f1).size : Int)) = false := decide_eq_false c12
                  have c12b1 : decide (20 < ((rd_T61 t220 x6_2).f1).size) = false := decide_eq_false (by omega)
                  clear c12
                  have H' := Aside0.mk H
                  clear H
                  obtain ⟨Ao14, co14, eo14⟩ := Kd.R_slice HO_5.out
                  subst eo14
                  have p223 : 0 ≤ (x6_2 : Int) := of_decide_eq_true (by first | (with_reducible assumption) | assumption)
                  have q223 : x6_2 < (t220.length : Int) := of_decide_eq_true (by first | (with_reducible assumption) | assumption)
                  obtain ⟨ad223, e223, hx223_0, hx223_1, hx223_2⟩ := at_T61 (Kd.R_reads' HO_5.out).2.2 x6_2 p223 q223
                  cases e223
                  replace p223 := eq_true p223
                  replace q223 := eq_true q223
                  go_wp2
                  go_roundg k2
                  case measure => have := HJ2.out; have := HK2.out; omega
                  case rel => exact ⟨(wrap64 (x6_2 + 1)), (by first | rfl | (simp; done) | (simp [*]; done)), H', ⟨by have := HJ2.out; have := HK2.out; omega⟩, ⟨by (with_reducible repeat (first | apply Kd.R_alloc | apply Kd.R_drewN | apply Kd.R_drew)); exact HO_5.out⟩, ⟨by repeat (first | (with_reducible first | exact HB.out | apply below_alloc | apply pw_below_drewN | apply below_drew1) | exact HB.out)⟩⟩
              · rw [if_neg c11] at H
                exact absurd H (by simp)
            · rw [if_neg c10] at H
              have c10b0 : decide (x6_2 < (t220.length : Int)) = false := decide_eq_false c10
              clear c10
              obtain rfl := Option.some.inj H
              obtain ⟨Ao15, co15, eo15⟩ := Kd.R_slice HO_5.out
              subst eo15
              go_wp2
              go_ret
              exact ⟨by first | rfl | (simp [errW_none, errW_some] <;> rfl) | (simp [*, errW_none, errW_some] <;> rfl), by repeat (first | (with_reducible first | exact HB.out | apply below_alloc | apply pw_below_drewN | apply below_drew1) | exact HB.out)⟩

/-! ### hist_Count: function 30 -/
def hist_Count.l0 : Nat → Int → List (List (S61)) → Int → Int → Option (Int)
  | 0, _, _, _, _ => none
  | k + 1, x3, x6, x7, x8 => if x8 < x7 then (if 0 ≤ x8 then (if x8 < (x6.length : Int) then (hist_Count.l0 k (wrap64 (x3 + ((rd_L4 x6 x8).length : Int))) x6 x7 (wrap64 (x8 + 1))) else (none)) else (none)) else (some x3)
def hist_Count.f (k : Nat) (l0 : List (List (S61))) : Option (Int) := hist_Count.l0 k 0 l0 (l0.length : Int) 0
theorem hist_Count.mono_l : ∀ k, (∀ y0 y1 y2 y3, LeO (hist_Count.l0 k y0 y1 y2 y3) (hist_Count.l0 (k + 1) y0 y1 y2 y3))
  | 0 => fun _ _ _ _ r h => by simp [hist_Count.l0] at h
  | k + 1 => by
    have ih0 := hist_Count.mono_l k
    · intro y0 y1 y2 y3
      unfold hist_Count.l0
      repeat' first
      | (with_reducible exact ih0 _ _ _ _)
      | (with_reducible exact LeO.refl _)
      | (with_reducible exact LeO.none _)
      | (with_reducible refine LeO.ite ?_ ?_)
      | (with_reducible refine LeO.bind ?_ (fun _ => ?_))
      | exact ih0 _ _ _ _
      | exact LeO.none _
      | refine LeO.ite ?_ ?_
      | refine LeO.bind ?_ (fun _ => ?_)
theorem hist_Count.mono : ∀ a0 k, LeO (hist_Count.f k a0) (hist_Count.f (k + 1) a0) := by
  intro a0 k
  have ih0 := hist_Count.mono_l k
  unfold hist_Count.f
  repeat' first
      | (with_reducible exact ih0 _ _ _ _)
      | (with_reducible exact LeO.refl _)
      | (with_reducible exact LeO.none _)
      | (with_reducible refine LeO.ite ?_ ?_)
      | (with_reducible refine LeO.bind ?_ (fun _ => ?_))
      | exact ih0 _ _ _ _
      | exact LeO.none _
      | refine LeO.ite ?_ ?_
      | refine LeO.bind ?_ (fun _ => ?_)
set_option maxHeartbeats 8000000 in
set_option maxRecDepth 100000 in
theorem hist_Count.calls (k : Nat) (A0 : Option Addr) (c0 : Nat) (l0 : List (List (S61))) (r : Int) (w : World) (hr0 : Kd.C (Kd.slice 61 k61) w A0 l0.length l0) (hc0 : l0.length ≤ c0) (h : hist_Count.f k l0 = some r) :
    Calls Tryd.prog 30 #[.slice A0 l0.length c0] w fun e w' => e = .returned (.int .i64 r) ∧ Drawn0 w w' := by
  have HR0 := Aside0.mk hr0
  have HC0 := Aside0.mk hc0
  clear hr0 hc0
  have H : (hist_Count.l0 k 0 l0 (l0.length : Int) 0) = some r := h
  clear h
  have H' := Aside0.mk H
  clear H
  go_enter Tryd.func30, Tryd.ntmps30
  go_wp2
  go_loopg [3, 8] k (fun kq v3 v8 w' => ∃ (x3_1 : Int) (x8_1 : Int), v3 = .int .i64 x3_1 ∧ v8 = .int .i64 x8_1 ∧ Aside0 (hist_Count.l0 kq x3_1 l0 (l0.length : Int) x8_1 = some r) ∧ Aside0 (kq ≤ k) ∧ Drawn0 w w')
  case atStart => exact ⟨(0), (0), (by first | rfl | (simp; done) | (simp [*]; done)), (by first | rfl | (simp; done) | (simp [*]; done)), H', ⟨Nat.le_refl _⟩, by repeat (first | exact Drawn0.refl _ | apply Drawn0.step)⟩
  case round =>
    clear H'
    obtain ⟨x3_1, x8_1, rfl, rfl, HA, HK1, ⟨m1, rfl⟩⟩ := hrel
    cases gk with
    | zero => exact absurd HA.out (by simp [hist_Count.l0])
    | succ k1 =>
      have H := HA.out
      clear HA
      simp only [hist_Count.l0] at H
      by_cases c2 : x8_1 < (l0.length : Int)
      · rw [if_pos c2] at H
        have c2b0 : decide (x8_1 < (l0.length : Int)) = true := decide_eq_true c2
        clear c2
        by_cases c3 : 0 ≤ x8_1
        · rw [if_pos c3] at H
          have c3b0 : decide (0 ≤ x8_1) = true := decide_eq_true c3
          clear c3
          by_cases c4 : x8_1 < (l0.length : Int)
          · rw [if_pos c4] at H
            have c4b0 : decide (x8_1 < (l0.length : Int)) = true := decide_eq_true c4
            clear c4
            have H' := Aside0.mk H
            clear H
            have p224 : 0 ≤ (x8_1 : Int) := of_decide_eq_true (by first | (with_reducible assumption) | assumption)
            have q224 : x8_1 < (l0.length : Int) := of_decide_eq_true (by first | (with_reducible assumption) | assumption)
            obtain ⟨ad224, A224_0, c224_0, e224, hx224_0, hl224_0, hi224_0⟩ := at_L4 HR0.out x8_1 p224 q224
            cases e224
            have HR224_0 := Aside0.mk hi224_0
            have HC224_0 := Aside0.mk hl224_0
            clear hi224_0 hl224_0
            replace p224 := eq_true p224
            replace q224 := eq_true q224
            go_wp2
            go_roundg k1
            case measure => have := HK1.out; omega
            case rel => exact ⟨(wrap64 (x3_1 + ((rd_L4 l0 x8_1).length : Int))), (wrap64 (x8_1 + 1)), (by first | rfl | (simp; done) | (simp [*]; done)), (by first | rfl | (simp; done) | (simp [*]; done)), H', ⟨by have := HK1.out; omega⟩, by repeat (first | exact Drawn0.refl _ | apply Drawn0.step)⟩
          · rw [if_neg c4] at H
            exact absurd H (by simp)
        · rw [if_neg c3] at H
          exact absurd H (by simp)
      · rw [if_neg c2] at H
        have c2b0 : decide (x8_1 < (l0.length : Int)) = false := decide_eq_false c2
        clear c2
        obtain rfl := Option.some.inj H
        go_wp2
        go_ret
        exact ⟨by first | rfl | (simp; done) | (simp [*]; done), by repeat (first | exact Drawn0.refl _ | apply Drawn0.step)⟩

end Go.Proofs.YtcabnjinfkjnjaaDoor.XH
