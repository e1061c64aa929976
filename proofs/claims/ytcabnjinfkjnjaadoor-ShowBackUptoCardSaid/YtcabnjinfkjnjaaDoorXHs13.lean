-- Written by a program of this session (xprint.py over the kit's print): functions, their contracts, laws.
import Derived.Test.YtcabnjinfkjnjaaDoorXHx0
import Derived.Test.YtcabnjinfkjnjaaDoorXHx12
import Derived.Test.YtcabnjinfkjnjaaDoorGNum
namespace Go.Proofs.YtcabnjinfkjnjaaDoor.XH
open Go.RowKit Go.Proofs.YtcabnjinfkjnjaaDoorW.PrintWords Go.Proofs.YtcabnjinfkjnjaaDoorW.PrintLast Go.Proofs.YtcabnjinfkjnjaaDoorW.PrintMore Go.Proofs.YtcabnjinfkjnjaaDoor.X
attribute [local go_sem] max2_int min2_int max_two min_two max_three min_three max_four min_four   -- for this text's walks alone
set_option linter.unusedVariables false
set_option linter.unusedSimpArgs false

/-! ### eyewitnessref07_Text: function 44 -/
mutual
def eyewitnessref07_Text.l0 : Nat → ByteArray → List (List (S61)) → Int → Int → Option ((List (List (S61))) × Int × Int)
  | 0, _, _, _, _ => none
  | k + 1, x0, x5, x6, x7 => if x6 < (x0.size : Int) then (eyewitnessref07_Text.l1 k x0 x5 x6 x7 ([] : List (S61))) else (some (x5, 0, 0))
def eyewitnessref07_Text.l1 : Nat → ByteArray → List (List (S61)) → Int → Int → List (S61) → Option ((List (List (S61))) × Int × Int)
  | 0, _, _, _, _, _ => none
  | k + 1, x0, x5, x6, x7, x8 => if 0 ≤ x6 then (if x6 < (x0.size : Int) then (if (bt x0 x6) = 10 then (if x5.length < 5864062014805 then (eyewitnessref07_Text.l0 k x0 (x5 ++ [x8]) (wrap64 (x6 + 1)) x7) else (none)) else (if (x8.length : Int) > 0 then (if (bt x0 x6) = 32 then (eyewitnessref07_Text.j2 k x0 x5 (wrap64 (x6 + 1)) x7 x8) else (some (([] : List (List (S61))), x6, 2))) else (eyewitnessref07_Text.j2 k x0 x5 x6 x7 x8))) else (none)) else (none)
def eyewitnessref07_Text.j2 : Nat → ByteArray → List (List (S61)) → Int → Int → List (S61) → Option ((List (List (S61))) × Int × Int)
  | 0, _, _, _, _, _ => none
  | k + 1, x0, x5, x6, x7, x8 => if x7 = 4096 then (if x6 < (x0.size : Int) then (if 0 ≤ x6 then (if (bt x0 x6) = 119 then (eyewitnessref07_Text.j3 k x0 x5 x6 x7 x8 true) else (eyewitnessref07_Text.j3 k x0 x5 x6 x7 x8 ((bt x0 x6) == 114))) else (none)) else (eyewitnessref07_Text.j3 k x0 x5 x6 x7 x8 false)) else (eyewitnessref07_Text.j3 k x0 x5 x6 x7 x8 false)
def eyewitnessref07_Text.j3 : Nat → ByteArray → List (List (S61)) → Int → Int → List (S61) → Bool → Option ((List (List (S61))) × Int × Int)
  | 0, _, _, _, _, _, _ => none
  | k + 1, x0, x5, x6, x7, x8, x49 => if x49 = true then (some (([] : List (List (S61))), x6, 3)) else ((eyewitnessref07_one.f k x0 x6).bind fun bt353 => (if bt353.2.2.2.2 = 0 then (if x8.length < 4398046511104 then (if bt353.2.2.2.1 ≥ (x0.size : Int) then (some (([] : List (List (S61))), bt353.2.2.2.1, 2)) else (eyewitnessref07_Text.l1 k x0 x5 bt353.2.2.2.1 (wrap64 (x7 + 1)) (x8 ++ [(⟨bt353.1, bt353.2.1, bt353.2.2.1⟩ : S61)]))) else (none)) else (some (([] : List (List (S61))), bt353.2.2.2.1, bt353.2.2.2.2))))
end
def eyewitnessref07_Text.f (k : Nat) (a0 : ByteArray) : Option ((List (List (S61))) × Int × Int) := eyewitnessref07_Text.l0 k a0 ([] : List (List (S61))) 0 0
theorem eyewitnessref07_Text.mono_l : ∀ k, (∀ y0 y1 y2 y3, LeO (eyewitnessref07_Text.l0 k y0 y1 y2 y3) (eyewitnessref07_Text.l0 (k + 1) y0 y1 y2 y3)) ∧ (∀ y0 y1 y2 y3 y4, LeO (eyewitnessref07_Text.l1 k y0 y1 y2 y3 y4) (eyewitnessref07_Text.l1 (k + 1) y0 y1 y2 y3 y4)) ∧ (∀ y0 y1 y2 y3 y4, LeO (eyewitnessref07_Text.j2 k y0 y1 y2 y3 y4) (eyewitnessref07_Text.j2 (k + 1) y0 y1 y2 y3 y4)) ∧ (∀ y0 y1 y2 y3 y4 y5, LeO (eyewitnessref07_Text.j3 k y0 y1 y2 y3 y4 y5) (eyewitnessref07_Text.j3 (k + 1) y0 y1 y2 y3 y4 y5))
  | 0 => ⟨fun _ _ _ _ r h => by simp [eyewitnessref07_Text.l0] at h, fun _ _ _ _ _ r h => by simp [eyewitnessref07_Text.l1] at h, fun _ _ _ _ _ r h => by simp [eyewitnessref07_Text.j2] at h, fun _ _ _ _ _ _ r h => by simp [eyewitnessref07_Text.j3] at h⟩
  | k + 1 => by
    obtain ⟨ih0, ih1, ih2, ih3⟩ := eyewitnessref07_Text.mono_l k
    refine ⟨?_, ?_, ?_, ?_⟩
    · intro y0 y1 y2 y3
      unfold eyewitnessref07_Text.l0
      repeat' first
      | (with_reducible exact ih0 _ _ _ _)
      | (with_reducible exact ih1 _ _ _ _ _)
      | (with_reducible exact ih2 _ _ _ _ _)
      | (with_reducible exact ih3 _ _ _ _ _ _)
      | (with_reducible exact eyewitnessref07_one.mono _ _ _)
      | (with_reducible exact LeO.refl _)
      | (with_reducible exact LeO.none _)
      | (with_reducible refine LeO.ite ?_ ?_)
      | (with_reducible refine LeO.bind ?_ (fun _ => ?_))
      | exact ih0 _ _ _ _
      | exact ih1 _ _ _ _ _
      | exact ih2 _ _ _ _ _
      | exact ih3 _ _ _ _ _ _
      | exact eyewitnessref07_one.mono _ _ _
      | exact LeO.none _
      | refine LeO.ite ?_ ?_
      | refine LeO.bind ?_ (fun _ => ?_)
    · intro y0 y1 y2 y3 y4
      unfold eyewitnessref07_Text.l1
      repeat' first
      | (with_reducible exact ih0 _ _ _ _)
      | (with_reducible exact ih1 _ _ _ _ _)
      | (with_reducible exact ih2 _ _ _ _ _)
      | (with_reducible exact ih3 _ _ _ _ _ _)
      | (with_reducible exact eyewitnessref07_one.mono _ _ _)
      | (with_reducible exact LeO.refl _)
      | (with_reducible exact LeO.none _)
      | (with_reducible refine LeO.ite ?_ ?_)
      | (with_reducible refine LeO.bind ?_ (fun _ => ?_))
      | exact ih0 _ _ _ _
      | exact ih1 _ _ _ _ _
      | exact ih2 _ _ _ _ _
      | exact ih3 _ _ _ _ _ _
      | exact eyewitnessref07_one.mono _ _ _
      | exact LeO.none _
      | refine LeO.ite ?_ ?_
      | refine LeO.bind ?_ (fun _ => ?_)
    · intro y0 y1 y2 y3 y4
      unfold eyewitnessref07_Text.j2
      repeat' first
      | (with_reducible exact ih0 _ _ _ _)
      | (with_reducible exact ih1 _ _ _ _ _)
      | (with_reducible exact ih2 _ _ _ _ _)
      | (with_reducible exact ih3 _ _ _ _ _ _)
      | (with_reducible exact eyewitnessref07_one.mono _ _ _)
      | (with_reducible exact LeO.refl _)
      | (with_reducible exact LeO.none _)
      | (with_reducible refine LeO.ite ?_ ?_)
      | (with_reducible refine LeO.bind ?_ (fun _ => ?_))
      | exact ih0 _ _ _ _
      | exact ih1 _ _ _ _ _
      | exact ih2 _ _ _ _ _
      | exact ih3 _ _ _ _ _ _
      | exact eyewitnessref07_one.mono _ _ _
      | exact LeO.none _
      | refine LeO.ite ?_ ?_
      | refine LeO.bind ?_ (fun _ => ?_)
    · intro y0 y1 y2 y3 y4 y5
      unfold eyewitnessref07_Text.j3
      repeat' first
      | (with_reducible exact ih0 _ _ _ _)
      | (with_reducible exact ih1 _ _ _ _ _)
      | (with_reducible exact ih2 _ _ _ _ _)
      | (with_reducible exact ih3 _ _ _ _ _ _)
      | (with_reducible exact eyewitnessref07_one.mono _ _ _)
      | (with_reducible exact LeO.refl _)
      | (with_reducible exact LeO.none _)
      | (with_reducible refine LeO.ite ?_ ?_)
      | (with_reducible refine LeO.bind ?_ (fun _ => ?_))
      | exact ih0 _ _ _ _
      | exact ih1 _ _ _ _ _
      | exact ih2 _ _ _ _ _
      | exact ih3 _ _ _ _ _ _
      | exact eyewitnessref07_one.mono _ _ _
      | exact LeO.none _
      | refine LeO.ite ?_ ?_
      | refine LeO.bind ?_ (fun _ => ?_)
theorem eyewitnessref07_Text.mono : ∀ a0 k, LeO (eyewitnessref07_Text.f k a0) (eyewitnessref07_Text.f (k + 1) a0) := by
  intro a0 k
  obtain ⟨ih0, ih1, ih2, ih3⟩ := eyewitnessref07_Text.mono_l k
  unfold eyewitnessref07_Text.f
  repeat' first
      | (with_reducible exact ih0 _ _ _ _)
      | (with_reducible exact ih1 _ _ _ _ _)
      | (with_reducible exact ih2 _ _ _ _ _)
      | (with_reducible exact ih3 _ _ _ _ _ _)
      | (with_reducible exact eyewitnessref07_one.mono _ _ _)
      | (with_reducible exact LeO.refl _)
      | (with_reducible exact LeO.none _)
      | (with_reducible refine LeO.ite ?_ ?_)
      | (with_reducible refine LeO.bind ?_ (fun _ => ?_))
      | exact ih0 _ _ _ _
      | exact ih1 _ _ _ _ _
      | exact ih2 _ _ _ _ _
      | exact ih3 _ _ _ _ _ _
      | exact eyewitnessref07_one.mono _ _ _
      | exact LeO.none _
      | refine LeO.ite ?_ ?_
      | refine LeO.bind ?_ (fun _ => ?_)
set_option maxHeartbeats 8000000 in
set_option maxRecDepth 100000 in
theorem eyewitnessref07_Text.calls (k : Nat) (a0 : ByteArray) (r1 : List (List (S61))) (r2 : Int) (r3 : Int) (w : World) (h : eyewitnessref07_Text.f k a0 = some (r1, r2, r3)) :
    Calls Tryd.prog 44 #[.string a0] w fun e w' => ∃ v0_ : Value, e = .returned (.tuple #[v0_, .int .i64 r2, .int .i64 r3]) ∧ Kd.S (Kd.slice 61 k61) 51 w' w.heap.size (fun _ => True) v0_ r1 ∧ Below w.heap.size w w' := by
  have hu61 := Tryd.underlying61
  have HB := Aside0.mk (Below.refl w.heap.size w)
  have H : (eyewitnessref07_Text.l0 k a0 ([] : List (List (S61))) 0 0) = some (r1, r2, r3) := h
  clear h
  have H' := Aside0.mk H
  clear H
  go_enter Tryd.func44, Tryd.ntmps44
  go_wp2
  go_loopg [5, 6, 7] k (fun kq v5 v6 v7 w' => ∃ (x5_1 : List (List (S61))) (x6_1 : Int) (x7_1 : Int), v6 = .int .i64 x6_1 ∧ v7 = .int .i64 x7_1 ∧ Aside0 (eyewitnessref07_Text.l0 kq a0 x5_1 x6_1 x7_1 = some (r1, r2, r3)) ∧ Aside0 (kq ≤ k) ∧ Aside0 (Kd.S (Kd.slice 61 k61) 51 w' w.heap.size (fun _ => True) v5 x5_1) ∧ Aside0 (Below w.heap.size w w'))
  case atStart => exact ⟨(([] : List (List (S61)))), (0), (0), (by first | rfl | (simp; done) | (simp [*]; done)), (by first | rfl | (simp; done) | (simp [*]; done)), H', ⟨Nat.le_refl _⟩, ⟨by first | exact Kd.S_nil _ _ _ _ _ | exact Kd.N_nil _ _ _ _ _ | exact Kd.V_nil _ _ _ _ _ | exact Kd.Q_nil _ _ _ _ _ | exact Kd.R_nil _ _ _ _ _⟩, ⟨by repeat (first | (with_reducible first | exact HB.out | apply below_alloc | apply pw_below_drewN | apply below_drew1) | exact HB.out)⟩⟩
  case round =>
    clear H'
    obtain ⟨x5_1, x6_1, x7_1, rfl, rfl, HA, HK1, HO_5, HB⟩ := hrel
    cases gk with
    | zero => exact absurd HA.out (by simp [eyewitnessref07_Text.l0])
    | succ k1 =>
      have H := HA.out
      clear HA
      simp only [eyewitnessref07_Text.l0] at H
      by_cases c2 : x6_1 < (a0.size : Int)
      · rw [if_pos c2] at H
        have c2b0 : decide (x6_1 < (a0.size : Int)) = true := decide_eq_true c2
        clear c2
        have H' := Aside0.mk H
        clear H
        go_wp2
        go_loopg [6, 7, 8] k1 (fun kq v6 v7 v8 w' => ∃ (x6_2 : Int) (x7_2 : Int) (x8_2 : List (S61)), v6 = .int .i64 x6_2 ∧ v7 = .int .i64 x7_2 ∧ Aside0 (eyewitnessref07_Text.l1 kq a0 x5_1 x6_2 x7_2 x8_2 = some (r1, r2, r3)) ∧ Aside0 (kq ≤ k1) ∧ Aside0 (Kd.S (Kd.slice 61 k61) 51 w' w.heap.size (fun k_ => some k_ ≠ (v8 : Value).ownBlock) u5 x5_1) ∧ Aside0 (Kd.R k61 61 w' w.heap.size (fun _ => True) v8 x8_2) ∧ Aside0 (Below w.heap.size w w'))
        case atStart => exact ⟨(x6_1), (x7_1), (([] : List (S61))), (by first | rfl | (simp; done) | (simp [*]; done)), (by first | rfl | (simp; done) | (simp [*]; done)), H', ⟨Nat.le_refl _⟩, ⟨by (with_reducible repeat (first | apply Kd.S_alloc | apply Kd.S_drewN | apply Kd.S_drew)); exact Kd.S_mono HO_5.out (fun _ hk => (by simp [Value.ownBlock]))⟩, ⟨by first | exact Kd.R_nil _ _ _ _ _ | exact Kd.N_nil _ _ _ _ _ | exact Kd.V_nil _ _ _ _ _ | exact Kd.Q_nil _ _ _ _ _ | exact Kd.S_nil _ _ _ _ _⟩, ⟨by repeat (first | (with_reducible first | exact HB.out | apply below_alloc | apply pw_below_drewN | apply below_drew1) | exact HB.out)⟩⟩
        case round =>
          clear H'
          try clear c2
          try clear c2b0
          try clear p2
          obtain ⟨x6_2, x7_2, x8_2, rfl, rfl, HA, HK2, HO_5, HO_8, HB⟩ := hrel
          cases gk with
          | zero => exact absurd HA.out (by simp [eyewitnessref07_Text.l1])
          | succ k2 =>
            have H := HA.out
            clear HA
            simp only [eyewitnessref07_Text.l1] at H
            by_cases c3 : 0 ≤ x6_2
            · rw [if_pos c3] at H
              have c3b0 : decide (0 ≤ x6_2) = true := decide_eq_true c3
              clear c3
              by_cases c4 : x6_2 < (a0.size : Int)
              · rw [if_pos c4] at H
                have c4b0 : decide (x6_2 < (a0.size : Int)) = true := decide_eq_true c4
                clear c4
                by_cases c6 : (bt a0 x6_2) = 10
                · rw [if_pos c6] at H
                  have c6b0 : ((bt a0 x6_2) == 10) = true := beq_iff_eq.mpr c6
                  have c6b1 : ((bt a0 x6_2) != 10) = false := bne_eq_false_iff_eq.mpr c6
                  clear c6
                  by_cases c7 : x5_1.length < 5864062014805
                  · rw [if_pos c7] at H
                    have LMc7 := Aside0.mk c7
                    clear c7
                    obtain ⟨y350, hy350⟩ : ∃ y_ : List (List (S61)), y_ = (x5_1 ++ [x8_2]) := ⟨_, rfl⟩
                    replace H : (eyewitnessref07_Text.l0 k2 a0 y350 (wrap64 (x6_2 + 1)) x7_2) = some (r1, r2, r3) := by first | (rw [hy350]; with_reducible exact H) | (have H2_ := (Option.bind_some _ _).symm.trans H; rw [hy350]; with_reducible exact H2_) | (have H2_ := (Option.bind_some _ _).symm.trans H; with_reducible exact H2_) | with_reducible exact H | (rw [hy350]; exact H) | exact H
                    have Ny350 := Aside0.mk hy350
                    clear hy350
                    have H' := Aside0.mk H
                    clear H
                    have p5 : 0 ≤ (x6_2 : Int) := of_decide_eq_true (by first | (with_reducible assumption) | assumption)
                    have q5 : x6_2 < (a0.size : Int) := of_decide_eq_true (by first | (with_reducible assumption) | assumption)
                    have hx5 := bt_at a0 x6_2
                    replace p5 := eq_true p5
                    replace q5 := eq_true q5
                    obtain ⟨Ao9, co9, eo9⟩ := Kd.R_slice HO_8.out
                    subst eo9
                    go_wp2_with (first | ((with_reducible refine gate_builtin (b := .append) (xs := #[.tmp 74, .tmp 76]) rfl ?_); (try (refine gate_guard (by rfl) ?_; dsimp only)); at_builtin; refine Kd.S_append (Kd.slice 61 k61) (w0 := w) w.heap.size rfl (.tmp 74) (.tmp 76) 49 51 (.slice none 0 0) 24 rfl Tryd.underlying49 info51 rfl (by decide) (by omega) u5 x5_1 x8_2 [.slice Ao9 x8_2.length co9] (fun _ => True) (fun k_ => some k_ = (.slice Ao9 x8_2.length co9 : Value).ownBlock) rfl rfl ?aP (fun k_ hk_ => ((Kd.R_mono (ok' := fun k_ => ((fun _ => True)) k_ ∧ some k_ ≠ (u5 : Value).ownBlock) (Kd.R_apart' (HO_8.out) (Kd.S_typed HO_5.out) (by decide)) (fun k_ hk => ⟨trivial, hk.2⟩))).1 k_ hk_.symm) ?aF ?aO ?aB ?aS ?aL ?_; (case aP => exact Kd.M_row (Kd.R_mono (Kd.R_tight rfl (Kd.R_mono (ok' := fun k_ => ((fun _ => True)) k_ ∧ some k_ ≠ (u5 : Value).ownBlock) (Kd.R_apart' (HO_8.out) (Kd.S_typed HO_5.out) (by decide)) (fun k_ hk => ⟨trivial, hk.2⟩))) (fun _ h_ => h_))); (case aB => exact (by repeat (first | (with_reducible first | exact HB.out | apply below_alloc | apply pw_below_drewN | apply below_drew1) | exact HB.out))); (case aF => exact (fun _ _ => trivial)); (case aO => exact (by (with_reducible repeat (first | apply Kd.S_alloc | apply Kd.S_drewN | apply Kd.S_drew)); exact Kd.S_mono HO_5.out (fun k_ hk => ⟨trivial, fun e_ => hk e_⟩))); (case aS => exact (below_size (by repeat (first | (with_reducible first | exact HB.out | apply below_alloc | apply pw_below_drewN | apply below_drew1) | exact HB.out)))); (case aL => have := LMc7.out; omega); intro v351 w8 ho hb hg hat; rw [← Ny350.out] at ho; have n0_ := Aside0.mk (hb); have n1_ := Aside0.mk (ho); clear HB; clear HO_5; clear HO_8; have HB := n0_; have HO352 := n1_; clear n0_ n1_; clear ho hb hg hat))
                    go_roundg k2
                    case measure => have := HK1.out; have := HK2.out; omega
                    case rel => exact ⟨(y350), (wrap64 (x6_2 + 1)), (x7_2), (by first | rfl | (simp; done) | (simp [*]; done)), (by first | rfl | (simp; done) | (simp [*]; done)), H', ⟨by have := HK1.out; have := HK2.out; omega⟩, ⟨by (with_reducible repeat (first | apply Kd.S_alloc | apply Kd.S_drewN | apply Kd.S_drew)); exact HO352.out⟩, ⟨by repeat (first | (with_reducible first | exact HB.out | apply below_alloc | apply pw_below_drewN | apply below_drew1) | exact HB.out)⟩⟩
                  · rw [if_neg c7] at H
                    exact absurd H (by simp)
                · rw [if_neg c6] at H
                  have c6b0 : ((bt a0 x6_2) == 10) = false := beq_eq_false_iff_ne.mpr c6
                  have c6b1 : ((bt a0 x6_2) != 10) = true := bne_iff_ne.mpr c6
                  have HC10 := Aside0.mk H
                  clear H
                  have p5 : 0 ≤ (x6_2 : Int) := of_decide_eq_true (by first | (with_reducible assumption) | assumption)
                  have q5 : x6_2 < (a0.size : Int) := of_decide_eq_true (by first | (with_reducible assumption) | assumption)
                  have hx5 := bt_at a0 x6_2
                  replace p5 := eq_true p5
                  replace q5 := eq_true q5
                  obtain ⟨Ao11, co11, eo11⟩ := Kd.R_slice HO_8.out
                  subst eo11
                  go_upto_if 22 with (fail)
                  go_cut [6] (fun v6 wc => ∃ (kq : Nat) (x6_9 : Int), v6 = .int .i64 x6_9 ∧ Aside0 (eyewitnessref07_Text.j2 kq a0 x5_1 x6_9 x7_2 x8_2 = some (r1, r2, r3)) ∧ Aside0 (kq ≤ k2) ∧ Aside0 (Kd.S (Kd.slice 61 k61) 51 wc w.heap.size (fun k_ => some k_ ≠ ((.slice Ao11 x8_2.length co11) : Value).ownBlock) u5 x5_1) ∧ Aside0 (Kd.R k61 61 wc w.heap.size (fun _ => True) (.slice Ao11 x8_2.length co11) x8_2) ∧ Aside0 (Below w.heap.size w wc))
                  case first =>
                    have H := HC10.out
                    clear HC10
                    by_cases c12 : (x8_2.length : Int) > 0
                    · rw [if_pos c12] at H
                      have c12b0 : decide (0 < (x8_2.length : Int)) = true := decide_eq_true c12
                      have c12b1 : decide (0 < x8_2.length) = true := decide_eq_true (by omega)
                      clear c12
                      (first | rw [c12b0] | rw [c12b1] | (simp only [i64_w, i32_w]; rw [c12b0]) | skip)
                      by_cases c14 : (bt a0 x6_2) = 32
                      · rw [if_pos c14] at H
                        have c14b0 : ((bt a0 x6_2) == 32) = true := beq_iff_eq.mpr c14
                        have c14b1 : ((bt a0 x6_2) != 32) = false := bne_eq_false_iff_eq.mpr c14
                        clear c14
                        have H' := Aside0.mk H
                        clear H
                        have p13 : 0 ≤ (x6_2 : Int) := of_decide_eq_true (by first | (with_reducible assumption) | assumption)
                        have q13 : x6_2 < (a0.size : Int) := of_decide_eq_true (by first | (with_reducible assumption) | assumption)
                        have hx13 := bt_at a0 x6_2
                        replace p13 := eq_true p13
                        replace q13 := eq_true q13
                        go_wp2
                        go_meet
                        case rel => exact ⟨_, (wrap64 (x6_2 + 1)), (by first | rfl | (simp; done) | (simp [*]; done)), H', ⟨by have := HK1.out; have := HK2.out; first | omega | exact Nat.le_refl _⟩, ⟨by (with_reducible repeat (first | apply Kd.S_alloc | apply Kd.S_drewN | apply Kd.S_drew)); exact HO_5.out⟩, ⟨by (with_reducible repeat (first | apply Kd.R_alloc | apply Kd.R_drewN | apply Kd.R_drew)); exact HO_8.out⟩, ⟨by repeat (first | (with_reducible first | exact HB.out | apply below_alloc | apply pw_below_drewN | apply below_drew1) | exact HB.out)⟩⟩
                      · rw [if_neg c14] at H
                        have c14b0 : ((bt a0 x6_2) == 32) = false := beq_eq_false_iff_ne.mpr c14
                        have c14b1 : ((bt a0 x6_2) != 32) = true := bne_iff_ne.mpr c14
                        simp only [Option.some.injEq, Prod.mk.injEq] at H
                        obtain ⟨rfl, rfl, rfl⟩ := H
                        have p13 : 0 ≤ (x6_2 : Int) := of_decide_eq_true (by first | (with_reducible assumption) | assumption)
                        have q13 : x6_2 < (a0.size : Int) := of_decide_eq_true (by first | (with_reducible assumption) | assumption)
                        have hx13 := bt_at a0 x6_2
                        replace p13 := eq_true p13
                        replace q13 := eq_true q13
                        go_wp2
                        go_ret3
                        exact ⟨_, by first | rfl | (simp [errW_none, errW_some] <;> rfl) | (simp [*, errW_none, errW_some] <;> rfl), by first | exact Kd.S_nil _ _ _ _ _ | exact Kd.N_nil _ _ _ _ _ | exact Kd.V_nil _ _ _ _ _ | exact Kd.Q_nil _ _ _ _ _ | exact Kd.R_nil _ _ _ _ _, by repeat (first | (with_reducible first | exact HB.out | apply below_alloc | apply pw_below_drewN | apply below_drew1) | exact HB.out)⟩
                    · rw [if_neg c12] at H
                      have c12b0 : decide (0 < (x8_2.length : Int)) = false := decide_eq_false c12
                      have c12b1 : decide (0 < x8_2.length) = false := decide_eq_false (by omega)
                      clear c12
                      (first | rw [c12b0] | rw [c12b1] | (simp only [i64_w, i32_w]; rw [c12b0]) | skip)
                      have H' := Aside0.mk H
                      clear H
                      go_wp2
                      go_meet
                      case rel => exact ⟨_, (x6_2), (by first | rfl | (simp; done) | (simp [*]; done)), H', ⟨by have := HK1.out; have := HK2.out; first | omega | exact Nat.le_refl _⟩, ⟨by (with_reducible repeat (first | apply Kd.S_alloc | apply Kd.S_drewN | apply Kd.S_drew)); exact HO_5.out⟩, ⟨by (with_reducible repeat (first | apply Kd.R_alloc | apply Kd.R_drewN | apply Kd.R_drew)); exact HO_8.out⟩, ⟨by repeat (first | (with_reducible first | exact HB.out | apply below_alloc | apply pw_below_drewN | apply below_drew1) | exact HB.out)⟩⟩
                  case rest =>
                    clear HC10
                    try clear c1
                    try clear p1
                    try clear q1
                    try clear hx1
                    try clear c2
                    try clear c2b0
                    try clear p2
                    try clear c3
                    try clear c3b0
                    try clear c4
                    try clear c4b0
                    try clear p5
                    try clear q5
                    try clear hx5
                    try clear c6
                    try clear c6b0
                    try clear c6b1
                    try clear p6
                    try clear c7
                    try clear c12
                    try clear c12b0
                    try clear c12b1
                    try clear p13
                    try clear q13
                    try clear hx13
                    try clear c14
                    try clear c14b0
                    try clear c14b1
                    try clear p13
                    try clear p2
                    try clear p5
                    try clear q13
                    try clear q5
                    obtain ⟨kq, x6_9, rfl, HA, HJ9, HO_5, HO_8, HB⟩ := hcut
                    cases kq with
                    | zero => exact absurd HA.out (by simp [eyewitnessref07_Text.j2])
                    | succ kj9 =>
                      have H := HA.out
                      clear HA
                      simp only [eyewitnessref07_Text.j2] at H
                      have HC15 := Aside0.mk H
                      clear H
                      go_upto_region 10 with (fail)
                      go_cut [49] (fun v49 wc => ∃ (kq : Nat) (x49_14 : Bool), v49 = .bool x49_14 ∧ Aside0 (eyewitnessref07_Text.j3 kq a0 x5_1 x6_9 x7_2 x8_2 x49_14 = some (r1, r2, r3)) ∧ Aside0 (kq ≤ kj9) ∧ Aside0 (Kd.S (Kd.slice 61 k61) 51 wc w.heap.size (fun k_ => some k_ ≠ ((.slice Ao11 x8_2.length co11) : Value).ownBlock) u5 x5_1) ∧ Aside0 (Kd.R k61 61 wc w.heap.size (fun _ => True) (.slice Ao11 x8_2.length co11) x8_2) ∧ Aside0 (Below w.heap.size w wc))
                      case first =>
                        have H := HC15.out
                        clear HC15
                        by_cases c16 : x7_2 = 4096
                        · rw [if_pos c16] at H
                          have c16b0 : (x7_2 == 4096) = true := beq_iff_eq.mpr c16
                          have c16b1 : (x7_2 != 4096) = false := bne_eq_false_iff_eq.mpr c16
                          clear c16
                          (first | rw [c16b0] | rw [c16b1] | (simp only [i64_w, i32_w]; rw [c16b0]) | skip)
                          by_cases c17 : x6_9 < (a0.size : Int)
                          · rw [if_pos c17] at H
                            have c17b0 : decide (x6_9 < (a0.size : Int)) = true := decide_eq_true c17
                            clear c17
                            by_cases c18 : 0 ≤ x6_9
                            · rw [if_pos c18] at H
                              have c18b0 : decide (0 ≤ x6_9) = true := decide_eq_true c18
                              clear c18
                              by_cases c20 : (bt a0 x6_9) = 119
                              · rw [if_pos c20] at H
                                have c20b0 : ((bt a0 x6_9) == 119) = true := beq_iff_eq.mpr c20
                                have c20b1 : ((bt a0 x6_9) != 119) = false := bne_eq_false_iff_eq.mpr c20
                                clear c20
                                have H' := Aside0.mk H
                                clear H
                                have p19 : 0 ≤ (x6_9 : Int) := of_decide_eq_true (by first | (with_reducible assumption) | assumption)
                                have q19 : x6_9 < (a0.size : Int) := of_decide_eq_true (by first | (with_reducible assumption) | assumption)
                                have hx19 := bt_at a0 x6_9
                                replace p19 := eq_true p19
                                replace q19 := eq_true q19
                                go_wp2
                                go_meet
                                case rel => exact ⟨_, (true), (by first | rfl | (simp; done) | (simp [*]; done)), H', ⟨by have := HK1.out; have := HK2.out; have := HJ9.out; first | omega | exact Nat.le_refl _⟩, ⟨by (with_reducible repeat (first | apply Kd.S_alloc | apply Kd.S_drewN | apply Kd.S_drew)); exact HO_5.out⟩, ⟨by (with_reducible repeat (first | apply Kd.R_alloc | apply Kd.R_drewN | apply Kd.R_drew)); exact HO_8.out⟩, ⟨by repeat (first | (with_reducible first | exact HB.out | apply below_alloc | apply pw_below_drewN | apply below_drew1) | exact HB.out)⟩⟩
                              · rw [if_neg c20] at H
                                have c20b0 : ((bt a0 x6_9) == 119) = false := beq_eq_false_iff_ne.mpr c20
                                have c20b1 : ((bt a0 x6_9) != 119) = true := bne_iff_ne.mpr c20
                                have H' := Aside0.mk H
                                clear H
                                have p19 : 0 ≤ (x6_9 : Int) := of_decide_eq_true (by first | (with_reducible assumption) | assumption)
                                have q19 : x6_9 < (a0.size : Int) := of_decide_eq_true (by first | (with_reducible assumption) | assumption)
                                have hx19 := bt_at a0 x6_9
                                replace p19 := eq_true p19
                                replace q19 := eq_true q19
                                have p21 : 0 ≤ (x6_9 : Int) := of_decide_eq_true (by first | (with_reducible assumption) | assumption)
                                have q21 : x6_9 < (a0.size : Int) := of_decide_eq_true (by first | (with_reducible assumption) | assumption)
                                have hx21 := bt_at a0 x6_9
                                replace p21 := eq_true p21
                                replace q21 := eq_true q21
                                go_wp2
                                go_meet
                                case rel => exact ⟨_, (((bt a0 x6_9) == 114)), (by first | rfl | (simp; done) | (simp [*]; done)), H', ⟨by have := HK1.out; have := HK2.out; have := HJ9.out; first | omega | exact Nat.le_refl _⟩, ⟨by (with_reducible repeat (first | apply Kd.S_alloc | apply Kd.S_drewN | apply Kd.S_drew)); exact HO_5.out⟩, ⟨by (with_reducible repeat (first | apply Kd.R_alloc | apply Kd.R_drewN | apply Kd.R_drew)); exact HO_8.out⟩, ⟨by repeat (first | (with_reducible first | exact HB.out | apply below_alloc | apply pw_below_drewN | apply below_drew1) | exact HB.out)⟩⟩
                            · rw [if_neg c18] at H
                              exact absurd H (by simp)
                          · rw [if_neg c17] at H
                            have c17b0 : decide (x6_9 < (a0.size : Int)) = false := decide_eq_false c17
                            clear c17
                            have H' := Aside0.mk H
                            clear H
                            go_wp2
                            go_meet
                            case rel => exact ⟨_, (false), (by first | rfl | (simp; done) | (simp [*]; done)), H', ⟨by have := HK1.out; have := HK2.out; have := HJ9.out; first | omega | exact Nat.le_refl _⟩, ⟨by (with_reducible repeat (first | apply Kd.S_alloc | apply Kd.S_drewN | apply Kd.S_drew)); exact HO_5.out⟩, ⟨by (with_reducible repeat (first | apply Kd.R_alloc | apply Kd.R_drewN | apply Kd.R_drew)); exact HO_8.out⟩, ⟨by repeat (first | (with_reducible first | exact HB.out | apply below_alloc | apply pw_below_drewN | apply below_drew1) | exact HB.out)⟩⟩
                        · rw [if_neg c16] at H
                          have c16b0 : (x7_2 == 4096) = false := beq_eq_false_iff_ne.mpr c16
                          have c16b1 : (x7_2 != 4096) = true := bne_iff_ne.mpr c16
                          (first | rw [c16b0] | rw [c16b1] | (simp only [i64_w, i32_w]; rw [c16b0]) | skip)
                          have H' := Aside0.mk H
                          clear H
                          go_wp2
                          go_meet
                          case rel => exact ⟨_, (false), (by first | rfl | (simp; done) | (simp [*]; done)), H', ⟨by have := HK1.out; have := HK2.out; have := HJ9.out; first | omega | exact Nat.le_refl _⟩, ⟨by (with_reducible repeat (first | apply Kd.S_alloc | apply Kd.S_drewN | apply Kd.S_drew)); exact HO_5.out⟩, ⟨by (with_reducible repeat (first | apply Kd.R_alloc | apply Kd.R_drewN | apply Kd.R_drew)); exact HO_8.out⟩, ⟨by repeat (first | (with_reducible first | exact HB.out | apply below_alloc | apply pw_below_drewN | apply below_drew1) | exact HB.out)⟩⟩
                      case rest =>
                        clear HC15
                        try clear c1
                        try clear p1
                        try clear q1
                        try clear hx1
                        try clear c2
                        try clear c2b0
                        try clear p2
                        try clear q2
                        try clear hx2
                        try clear c3
                        try clear c3b0
                        try clear c4
                        try clear c4b0
                        try clear p5
                        try clear q5
                        try clear hx5
                        try clear c6
                        try clear c6b0
                        try clear c6b1
                        try clear p6
                        try clear c7
                        try clear c12
                        try clear c12b0
                        try clear c12b1
                        try clear p13
                        try clear q13
                        try clear hx13
                        try clear c14
                        try clear c14b0
                        try clear c14b1
                        try clear c16
                        try clear c16b0
                        try clear c16b1
                        try clear c17
                        try clear c17b0
                        try clear c18
                        try clear c18b0
                        try clear p19
                        try clear q19
                        try clear hx19
                        try clear c20
                        try clear c20b0
                        try clear c20b1
                        try clear p21
                        try clear q21
                        try clear hx21
                        try clear p1
                        try clear p13
                        try clear p19
                        try clear p2
                        try clear p21
                        try clear p5
                        try clear p6
                        try clear q1
                        try clear q13
                        try clear q19
                        try clear q21
                        try clear q5
                        obtain ⟨kq, x49_14, rfl, HA, HJ14, HO_5, HO_8, HB⟩ := hcut
                        cases kq with
                        | zero => exact absurd HA.out (by simp [eyewitnessref07_Text.j3])
                        | succ kj14 =>
                          have H := HA.out
                          clear HA
                          simp only [eyewitnessref07_Text.j3] at H
                          by_cases c22 : x49_14 = true
                          · subst c22
                            have H1 : (some (([] : List (List (S61))), x6_9, 3)) = some (r1, r2, r3) := by rw [if_pos rfl] at H; exact H
                            clear H
                            have H := H1
                            clear H1
                            simp only [Option.some.injEq, Prod.mk.injEq] at H
                            obtain ⟨rfl, rfl, rfl⟩ := H
                            go_wp2
                            go_ret3
                            exact ⟨_, by first | rfl | (simp [errW_none, errW_some] <;> rfl) | (simp [*, errW_none, errW_some] <;> rfl), by first | exact Kd.S_nil _ _ _ _ _ | exact Kd.N_nil _ _ _ _ _ | exact Kd.V_nil _ _ _ _ _ | exact Kd.Q_nil _ _ _ _ _ | exact Kd.R_nil _ _ _ _ _, by repeat (first | (with_reducible first | exact HB.out | apply below_alloc | apply pw_below_drewN | apply below_drew1) | exact HB.out)⟩
                          · replace c22 := Bool.eq_false_iff.mpr c22
                            subst c22
                            have H1 : ((eyewitnessref07_one.f kj14 a0 x6_9).bind fun bt353 => (if bt353.2.2.2.2 = 0 then (if x8_2.length < 4398046511104 then (if bt353.2.2.2.1 ≥ (a0.size : Int) then (some (([] : List (List (S61))), bt353.2.2.2.1, 2)) else (eyewitnessref07_Text.l1 kj14 a0 x5_1 bt353.2.2.2.1 (wrap64 (x7_2 + 1)) (x8_2 ++ [(⟨bt353.1, bt353.2.1, bt353.2.2.1⟩ : S61)]))) else (none)) else (some (([] : List (List (S61))), bt353.2.2.2.1, bt353.2.2.2.2)))) = some (r1, r2, r3) := by rw [if_neg (show ¬ (false = true) by decide)] at H; exact H
                            clear H
                            have H := H1
                            clear H1
                            replace H := Option.bind_eq_some_iff.mp H
                            obtain ⟨⟨t353, t354, t355, t356, t357⟩, A230, H⟩ := H
                            replace H : (if t357 = 0 then (if x8_2.length < 4398046511104 then (if t356 ≥ (a0.size : Int) then (some (([] : List (List (S61))), t356, 2)) else (eyewitnessref07_Text.l1 kj14 a0 x5_1 t356 (wrap64 (x7_2 + 1)) (x8_2 ++ [(⟨t353, t354, t355⟩ : S61)]))) else (none)) else (some (([] : List (List (S61))), t356, t357))) = some (r1, r2, r3) := H
                            have A23 := Aside0.mk A230
                            clear A230
                            by_cases c24 : t357 = 0
                            · rw [if_pos c24] at H
                              have c24b0 : (t357 == 0) = true := beq_iff_eq.mpr c24
                              have c24b1 : (t357 != 0) = false := bne_eq_false_iff_eq.mpr c24
                              clear c24
                              by_cases c25 : x8_2.length < 4398046511104
                              · rw [if_pos c25] at H
                                have LMc25 := Aside0.mk c25
                                clear c25
                                obtain ⟨y359, hy359⟩ : ∃ y_ : List (S61), y_ = (x8_2 ++ [(⟨t353, t354, t355⟩ : S61)]) := ⟨_, rfl⟩
                                replace H : (if t356 ≥ (a0.size : Int) then (some (([] : List (List (S61))), t356, 2)) else (eyewitnessref07_Text.l1 kj14 a0 x5_1 t356 (wrap64 (x7_2 + 1)) y359)) = some (r1, r2, r3) := by first | (rw [hy359]; with_reducible exact H) | (have H2_ := (Option.bind_some _ _).symm.trans H; rw [hy359]; with_reducible exact H2_) | (have H2_ := (Option.bind_some _ _).symm.trans H; with_reducible exact H2_) | with_reducible exact H | (rw [hy359]; exact H) | exact H
                                have Ny359 := Aside0.mk hy359
                                clear hy359
                                by_cases c26 : t356 ≥ (a0.size : Int)
                                · rw [if_pos c26] at H
                                  have c26b0 : decide ((a0.size : Int) ≤ t356) = true := decide_eq_true c26
                                  clear c26
                                  simp only [Option.some.injEq, Prod.mk.injEq] at H
                                  obtain ⟨rfl, rfl, rfl⟩ := H
                                  go_wp2_with (first | ((with_reducible refine gate_callee (f := 75) rfl ?_); refine goesL_ (some 54) rfl rfl Tryd.func75 (by kernel_rfl) rfl #[.string a0, .int .i64 x6_9] rfl (by (try simp only [List.map_toArray, List.map_cons, List.map_nil]); first | done | rfl | (simp only [List.length_drop, List.length_take]; rfl)) ?_; (with_reducible refine (eyewitnessref07_one.calls kj14 a0 x6_9 t353 t354 t355 t356 t357 _ A23.out).mono ?_); rintro e w27 ⟨rfl, hb⟩; refine ⟨_, rfl, ?_⟩; have n0_ := Aside0.mk (Kd.S_below (by (with_reducible repeat (first | apply Kd.S_alloc | apply Kd.S_drewN | apply Kd.S_drew)); exact HO_5.out) hb); have n1_ := Aside0.mk (Kd.R_below (by (with_reducible repeat (first | apply Kd.R_alloc | apply Kd.R_drewN | apply Kd.R_drew)); exact HO_8.out) hb); have n2_ := Aside0.mk (below_step (by repeat (first | (with_reducible first | exact HB.out | apply below_alloc | apply pw_below_drewN | apply below_drew1) | exact HB.out)) hb); clear HO_5; clear HO_8; clear HB; have HO_5 := n0_; have HO_8 := n1_; have HB := n2_; clear n0_ n1_ n2_; (try clear hb); (try clear hb2); (try clear hk); (try clear hi)) | ((with_reducible refine gate_dst (N := 9) rfl ?_); (try (refine gate_guard (by rfl) ?_; dsimp only)); refine box_event ?hg (N := 9) ?hd (cs := #[.bool false, .string (⟨#[]⟩ : ByteArray), .int .i64 0]) (t := 61) ?hr ?_; (case hd => rfl); (case hg => rfl); (case hr => first | (go_simp; done) | (go_simp; rfl)); intro gb358 hg w28 hbox hb; have n0_ := Aside0.mk (Kd.S_below (Kd.S_elderB (by (with_reducible repeat (first | apply Kd.S_alloc | apply Kd.S_drewN | apply Kd.S_drew)); exact HO_5.out) gb358 (Nat.le_of_eq hg.symm)) hb); have n1_ := Aside0.mk (Kd.R_below (Kd.R_elderB (by (with_reducible repeat (first | apply Kd.R_alloc | apply Kd.R_drewN | apply Kd.R_drew)); exact HO_8.out) gb358 (Nat.le_of_eq hg.symm)) hb); have n2_ := Aside0.mk (below_step (by repeat (first | (with_reducible first | exact HB.out | apply below_alloc | apply pw_below_drewN | apply below_drew1) | exact HB.out)) hb); have n3_ := Aside0.mk (hbox); have n4_ := Aside0.mk ((by rw [hg]; exact (below_size (by repeat (first | (with_reducible first | exact HB.out | apply below_alloc | apply pw_below_drewN | apply below_drew1) | exact HB.out))) : w.heap.size ≤ gb358)); have n5_ := Aside0.mk ((by rw [hg]; exact (below_size (by repeat (first | (with_reducible first | exact HB.out | apply below_alloc | apply pw_below_drewN | apply below_drew1) | exact HB.out))) : w.heap.size ≤ gb358)); clear HO_5; clear HO_8; clear HB; have HO_5 := n0_; have HO_8 := n1_; have HB := n2_; have BK358 := n3_; have GW358 := n4_; have GE358 := n5_; clear n0_ n1_ n2_ n3_ n4_ n5_; clear hb hbox hg; have hcz29_0 : w28.cell? ⟨gb358, 0, none⟩ = some (.bool false) := (blk_cell BK358.out 0).trans rfl; have hcz29_1 : w28.cell? ⟨gb358, 1, none⟩ = some (.string (⟨#[]⟩ : ByteArray)) := (blk_cell BK358.out 1).trans rfl; have hcz29_2 : w28.cell? ⟨gb358, 2, none⟩ = some (.int .i64 0) := (blk_cell BK358.out 2).trans rfl; have hfz29_0 := blk_frozen BK358.out 0; have hfz29_1 := blk_frozen BK358.out 1; have hfz29_2 := blk_frozen BK358.out 2) | ((with_reducible refine gate_builtin (b := .append) (xs := #[.tmp 62, .tmp 64]) rfl ?_); (try (refine gate_guard (by rfl) ?_; dsimp only)); at_builtin; refine Kd.R_append k61 (w0 := w) w.heap.size rfl (.tmp 62) (.tmp 64) 51 61 (.agg #[(.bool false), (.string ⟨#[]⟩), (.int .i64 0)]) 32 rfl Tryd.underlying51 info61 rfl (by decide) (by omega) (.slice Ao11 x8_2.length co11) x8_2 (⟨t353, t354, t355⟩ : S61) [.bool t353, .string t354, .int .i64 t355] (fun k_ => k_ ≠ gb358) (fun _ => False) rfl (by first | (go_simp; done) | (go_simp; rfl)) ?aP (fun _ hk => hk.elim) ?aF ?aO ?aB ?aS ?aL ?_; (case aP => exact k61_mkM _ _ _ (⟨t353, t354, t355⟩ : S61)); (case aB => exact (by repeat (first | (with_reducible first | exact HB.out | apply below_alloc | apply pw_below_drewN | apply below_drew1 | refine below_set ?_ GE358.out) | exact HB.out))); (case aF => exact (fun k_ hk => Kd.freshB (g := gb358) (o := .cells #[.bool t353, .string t354, .int .i64 t355] 61 (0, 0)) (by (with_reducible repeat (first | refine blk_drewN ?_ _ | refine blk_drew ?_ | refine blk_alloc ?_ _)); refine blk_put (cs := #[.bool t353, .string t354, .int .i64 0]) ?_ 2 _ rfl; (with_reducible repeat (first | refine blk_drewN ?_ _ | refine blk_drew ?_ | refine blk_alloc ?_ _)); refine blk_put (cs := #[.bool t353, .string (⟨#[]⟩ : ByteArray), .int .i64 0]) ?_ 1 _ rfl; (with_reducible repeat (first | refine blk_drewN ?_ _ | refine blk_drew ?_ | refine blk_alloc ?_ _)); refine blk_put (cs := #[.bool false, .string (⟨#[]⟩ : ByteArray), .int .i64 0]) ?_ 0 _ rfl; (with_reducible repeat (first | refine blk_drewN ?_ _ | refine blk_drew ?_ | refine blk_alloc ?_ _)); exact BK358.out) k_ hk)); (case aO => exact (by (with_reducible repeat (first | apply Kd.R_alloc | apply Kd.R_drewN | apply Kd.R_drew)); exact Kd.R_mono (Kd.R_far (p := ⟨gb358, 2, none⟩) (Kd.R_far (p := ⟨gb358, 1, none⟩) (Kd.R_far (p := ⟨gb358, 0, none⟩) (Kd.R_mono HO_8.out (fun k_ hk => (⟨hk, hk.2⟩ : _ ∧ k_ ≠ gb358))) (fun _ hk => hk.2) (.bool t353)) (fun _ hk => hk.2) (.string t354)) (fun _ hk => hk.2) (.int .i64 t355)) (fun _ hk => hk.1.2))); (case aS => exact (below_size (by repeat (first | (with_reducible first | exact HB.out | apply below_alloc | apply pw_below_drewN | apply below_drew1 | refine below_set ?_ GE358.out) | exact HB.out)))); (case aL => have := LMc25.out; omega); intro v360 w30 ho hb hg hat; rw [← Ny359.out] at ho; have n0_ := Aside0.mk (Kd.S_after (ok := (fun k_ => k_ ≠ gb358)) (by (with_reducible repeat (first | apply Kd.S_alloc | apply Kd.S_drewN | apply Kd.S_drew)); exact Kd.S_mono (Kd.S_far (p := ⟨gb358, 2, none⟩) (Kd.S_far (p := ⟨gb358, 1, none⟩) (Kd.S_far (p := ⟨gb358, 0, none⟩) (Kd.S_mono HO_5.out (fun k_ hk => (⟨hk, hk.2⟩ : _ ∧ k_ ≠ gb358))) (fun _ hk => hk.2) (.bool t353)) (fun _ hk => hk.2) (.string t354)) (fun _ hk => hk.2) (.int .i64 t355)) (fun _ hk => ⟨hk.1.2, hk.1.1⟩)) hg hat); have n1_ := Aside0.mk (blk_grown (g := gb358) (o := .cells #[.bool t353, .string t354, .int .i64 t355] 61 (0, 0)) (by (with_reducible repeat (first | refine blk_drewN ?_ _ | refine blk_drew ?_ | refine blk_alloc ?_ _)); refine blk_put (cs := #[.bool t353, .string t354, .int .i64 0]) ?_ 2 _ rfl; (with_reducible repeat (first | refine blk_drewN ?_ _ | refine blk_drew ?_ | refine blk_alloc ?_ _)); refine blk_put (cs := #[.bool t353, .string (⟨#[]⟩ : ByteArray), .int .i64 0]) ?_ 1 _ rfl; (with_reducible repeat (first | refine blk_drewN ?_ _ | refine blk_drew ?_ | refine blk_alloc ?_ _)); refine blk_put (cs := #[.bool false, .string (⟨#[]⟩ : ByteArray), .int .i64 0]) ?_ 0 _ rfl; (with_reducible repeat (first | refine blk_drewN ?_ _ | refine blk_drew ?_ | refine blk_alloc ?_ _)); exact BK358.out) hg (Kd.R_away HO_8.out (fun _ hk => hk.2))); have n2_ := Aside0.mk (hb); have n3_ := Aside0.mk (ho); clear HO_5; clear BK358; clear HB; clear HO_8; have HO_5 := n0_; have BK358 := n1_; have HB := n2_; have HO361 := n3_; clear n0_ n1_ n2_ n3_; clear ho hb hg hat))
                                  go_ret3
                                  exact ⟨_, by first | rfl | (simp [errW_none, errW_some] <;> rfl) | (simp [*, errW_none, errW_some] <;> rfl), by first | exact Kd.S_nil _ _ _ _ _ | exact Kd.N_nil _ _ _ _ _ | exact Kd.V_nil _ _ _ _ _ | exact Kd.Q_nil _ _ _ _ _ | exact Kd.R_nil _ _ _ _ _, by repeat (first | (with_reducible first | exact HB.out | apply below_alloc | apply pw_below_drewN | apply below_drew1 | refine below_set ?_ GE358.out) | exact HB.out)⟩
                                · rw [if_neg c26] at H
                                  have c26b0 : decide ((a0.size : Int) ≤ t356) = false := decide_eq_false c26
                                  clear c26
                                  have H' := Aside0.mk H
                                  clear H
                                  go_wp2_with (first | ((with_reducible refine gate_callee (f := 75) rfl ?_); refine goesL_ (some 54) rfl rfl Tryd.func75 (by kernel_rfl) rfl #[.string a0, .int .i64 x6_9] rfl (by (try simp only [List.map_toArray, List.map_cons, List.map_nil]); first | done | rfl | (simp only [List.length_drop, List.length_take]; rfl)) ?_; (with_reducible refine (eyewitnessref07_one.calls kj14 a0 x6_9 t353 t354 t355 t356 t357 _ A23.out).mono ?_); rintro e w31 ⟨rfl, hb⟩; refine ⟨_, rfl, ?_⟩; have n0_ := Aside0.mk (Kd.S_below (by (with_reducible repeat (first | apply Kd.S_alloc | apply Kd.S_drewN | apply Kd.S_drew)); exact HO_5.out) hb); have n1_ := Aside0.mk (Kd.R_below (by (with_reducible repeat (first | apply Kd.R_alloc | apply Kd.R_drewN | apply Kd.R_drew)); exact HO_8.out) hb); have n2_ := Aside0.mk (below_step (by repeat (first | (with_reducible first | exact HB.out | apply below_alloc | apply pw_below_drewN | apply below_drew1) | exact HB.out)) hb); clear HO_5; clear HO_8; clear HB; have HO_5 := n0_; have HO_8 := n1_; have HB := n2_; clear n0_ n1_ n2_; (try clear hb); (try clear hb2); (try clear hk); (try clear hi)) | ((with_reducible refine gate_dst (N := 9) rfl ?_); (try (refine gate_guard (by rfl) ?_; dsimp only)); refine box_event ?hg (N := 9) ?hd (cs := #[.bool false, .string (⟨#[]⟩ : ByteArray), .int .i64 0]) (t := 61) ?hr ?_; (case hd => rfl); (case hg => rfl); (case hr => first | (go_simp; done) | (go_simp; rfl)); intro gb358 hg w32 hbox hb; have n0_ := Aside0.mk (Kd.S_below (Kd.S_elderB (by (with_reducible repeat (first | apply Kd.S_alloc | apply Kd.S_drewN | apply Kd.S_drew)); exact HO_5.out) gb358 (Nat.le_of_eq hg.symm)) hb); have n1_ := Aside0.mk (Kd.R_below (Kd.R_elderB (by (with_reducible repeat (first | apply Kd.R_alloc | apply Kd.R_drewN | apply Kd.R_drew)); exact HO_8.out) gb358 (Nat.le_of_eq hg.symm)) hb); have n2_ := Aside0.mk (below_step (by repeat (first | (with_reducible first | exact HB.out | apply below_alloc | apply pw_below_drewN | apply below_drew1) | exact HB.out)) hb); have n3_ := Aside0.mk (hbox); have n4_ := Aside0.mk ((by rw [hg]; exact (below_size (by repeat (first | (with_reducible first | exact HB.out | apply below_alloc | apply pw_below_drewN | apply below_drew1) | exact HB.out))) : w.heap.size ≤ gb358)); have n5_ := Aside0.mk ((by rw [hg]; exact (below_size (by repeat (first | (with_reducible first | exact HB.out | apply below_alloc | apply pw_below_drewN | apply below_drew1) | exact HB.out))) : w.heap.size ≤ gb358)); clear HO_5; clear HO_8; clear HB; have HO_5 := n0_; have HO_8 := n1_; have HB := n2_; have BK358 := n3_; have GW358 := n4_; have GE358 := n5_; clear n0_ n1_ n2_ n3_ n4_ n5_; clear hb hbox hg; have hcz33_0 : w32.cell? ⟨gb358, 0, none⟩ = some (.bool false) := (blk_cell BK358.out 0).trans rfl; have hcz33_1 : w32.cell? ⟨gb358, 1, none⟩ = some (.string (⟨#[]⟩ : ByteArray)) := (blk_cell BK358.out 1).trans rfl; have hcz33_2 : w32.cell? ⟨gb358, 2, none⟩ = some (.int .i64 0) := (blk_cell BK358.out 2).trans rfl; have hfz33_0 := blk_frozen BK358.out 0; have hfz33_1 := blk_frozen BK358.out 1; have hfz33_2 := blk_frozen BK358.out 2) | ((with_reducible refine gate_builtin (b := .append) (xs := #[.tmp 62, .tmp 64]) rfl ?_); (try (refine gate_guard (by rfl) ?_; dsimp only)); at_builtin; refine Kd.R_append k61 (w0 := w) w.heap.size rfl (.tmp 62) (.tmp 64) 51 61 (.agg #[(.bool false), (.string ⟨#[]⟩), (.int .i64 0)]) 32 rfl Tryd.underlying51 info61 rfl (by decide) (by omega) (.slice Ao11 x8_2.length co11) x8_2 (⟨t353, t354, t355⟩ : S61) [.bool t353, .string t354, .int .i64 t355] (fun k_ => k_ ≠ gb358) (fun _ => False) rfl (by first | (go_simp; done) | (go_simp; rfl)) ?aP (fun _ hk => hk.elim) ?aF ?aO ?aB ?aS ?aL ?_; (case aP => exact k61_mkM _ _ _ (⟨t353, t354, t355⟩ : S61)); (case aB => exact (by repeat (first | (with_reducible first | exact HB.out | apply below_alloc | apply pw_below_drewN | apply below_drew1 | refine below_set ?_ GE358.out) | exact HB.out))); (case aF => exact (fun k_ hk => Kd.freshB (g := gb358) (o := .cells #[.bool t353, .string t354, .int .i64 t355] 61 (0, 0)) (by (with_reducible repeat (first | refine blk_drewN ?_ _ | refine blk_drew ?_ | refine blk_alloc ?_ _)); refine blk_put (cs := #[.bool t353, .string t354, .int .i64 0]) ?_ 2 _ rfl; (with_reducible repeat (first | refine blk_drewN ?_ _ | refine blk_drew ?_ | refine blk_alloc ?_ _)); refine blk_put (cs := #[.bool t353, .string (⟨#[]⟩ : ByteArray), .int .i64 0]) ?_ 1 _ rfl; (with_reducible repeat (first | refine blk_drewN ?_ _ | refine blk_drew ?_ | refine blk_alloc ?_ _)); refine blk_put (cs := #[.bool false, .string (⟨#[]⟩ : ByteArray), .int .i64 0]) ?_ 0 _ rfl; (with_reducible repeat (first | refine blk_drewN ?_ _ | refine blk_drew ?_ | refine blk_alloc ?_ _)); exact BK358.out) k_ hk)); (case aO => exact (by (with_reducible repeat (first | apply Kd.R_alloc | apply Kd.R_drewN | apply Kd.R_drew)); exact Kd.R_mono (Kd.R_far (p := ⟨gb358, 2, none⟩) (Kd.R_far (p := ⟨gb358, 1, none⟩) (Kd.R_far (p := ⟨gb358, 0, none⟩) (Kd.R_mono HO_8.out (fun k_ hk => (⟨hk, hk.2⟩ : _ ∧ k_ ≠ gb358))) (fun _ hk => hk.2) (.bool t353)) (fun _ hk => hk.2) (.string t354)) (fun _ hk => hk.2) (.int .i64 t355)) (fun _ hk => hk.1.2))); (case aS => exact (below_size (by repeat (first | (with_reducible first | exact HB.out | apply below_alloc | apply pw_below_drewN | apply below_drew1 | refine below_set ?_ GE358.out) | exact HB.out)))); (case aL => have := LMc25.out; omega); intro v360 w34 ho hb hg hat; rw [← Ny359.out] at ho; have n0_ := Aside0.mk (Kd.S_after (ok := (fun k_ => k_ ≠ gb358)) (by (with_reducible repeat (first | apply Kd.S_alloc | apply Kd.S_drewN | apply Kd.S_drew)); exact Kd.S_mono (Kd.S_far (p := ⟨gb358, 2, none⟩) (Kd.S_far (p := ⟨gb358, 1, none⟩) (Kd.S_far (p := ⟨gb358, 0, none⟩) (Kd.S_mono HO_5.out (fun k_ hk => (⟨hk, hk.2⟩ : _ ∧ k_ ≠ gb358))) (fun _ hk => hk.2) (.bool t353)) (fun _ hk => hk.2) (.string t354)) (fun _ hk => hk.2) (.int .i64 t355)) (fun _ hk => ⟨hk.1.2, hk.1.1⟩)) hg hat); have n1_ := Aside0.mk (blk_grown (g := gb358) (o := .cells #[.bool t353, .string t354, .int .i64 t355] 61 (0, 0)) (by (with_reducible repeat (first | refine blk_drewN ?_ _ | refine blk_drew ?_ | refine blk_alloc ?_ _)); refine blk_put (cs := #[.bool t353, .string t354, .int .i64 0]) ?_ 2 _ rfl; (with_reducible repeat (first | refine blk_drewN ?_ _ | refine blk_drew ?_ | refine blk_alloc ?_ _)); refine blk_put (cs := #[.bool t353, .string (⟨#[]⟩ : ByteArray), .int .i64 0]) ?_ 1 _ rfl; (with_reducible repeat (first | refine blk_drewN ?_ _ | refine blk_drew ?_ | refine blk_alloc ?_ _)); refine blk_put (cs := #[.bool false, .string (⟨#[]⟩ : ByteArray), .int .i64 0]) ?_ 0 _ rfl; (with_reducible repeat (first | refine blk_drewN ?_ _ | refine blk_drew ?_ | refine blk_alloc ?_ _)); exact BK358.out) hg (Kd.R_away HO_8.out (fun _ hk => hk.2))); have n2_ := Aside0.mk (hb); have n3_ := Aside0.mk (ho); clear HO_5; clear BK358; clear HB; clear HO_8; have HO_5 := n0_; have BK358 := n1_; have HB := n2_; have HO361 := n3_; clear n0_ n1_ n2_ n3_; clear ho hb hg hat))
                                  go_roundg kj14
                                  case measure => have := HK1.out; have := HK2.out; have := HJ9.out; have := HJ14.out; omega
                                  case rel => exact ⟨(t356), (wrap64 (x7_2 + 1)), (y359), (by first | rfl | (simp; done) | (simp [*]; done)), (by first | rfl | (simp; done) | (simp [*]; done)), H', ⟨by have := HK1.out; have := HK2.out; have := HJ9.out; have := HJ14.out; omega⟩, ⟨by (with_reducible repeat (first | apply Kd.S_alloc | apply Kd.S_drewN | apply Kd.S_drew)); exact Kd.S_mono HO_5.out (fun _ hk => hk.2)⟩, ⟨by (with_reducible repeat (first | apply Kd.R_alloc | apply Kd.R_drewN | apply Kd.R_drew)); exact Kd.R_mono HO361.out (fun _ hk => trivial)⟩, ⟨by repeat (first | (with_reducible first | exact HB.out | apply below_alloc | apply pw_below_drewN | apply below_drew1 | refine below_set ?_ GE358.out) | exact HB.out)⟩⟩
                              · rw [if_neg c25] at H
                                exact absurd H (by simp)
                            · rw [if_neg c24] at H
                              have c24b0 : (t357 == 0) = false := beq_eq_false_iff_ne.mpr c24
                              have c24b1 : (t357 != 0) = true := bne_iff_ne.mpr c24
                              simp only [Option.some.injEq, Prod.mk.injEq] at H
                              obtain ⟨rfl, rfl, rfl⟩ := H
                              go_wp2_with (first | ((with_reducible refine gate_callee (f := 75) rfl ?_); refine goesL_ (some 54) rfl rfl Tryd.func75 (by kernel_rfl) rfl #[.string a0, .int .i64 x6_9] rfl (by (try simp only [List.map_toArray, List.map_cons, List.map_nil]); first | done | rfl | (simp only [List.length_drop, List.length_take]; rfl)) ?_; (with_reducible refine (eyewitnessref07_one.calls kj14 a0 x6_9 t353 t354 t355 t356 t357 _ A23.out).mono ?_); rintro e w35 ⟨rfl, hb⟩; refine ⟨_, rfl, ?_⟩; have n0_ := Aside0.mk (Kd.S_below (by (with_reducible repeat (first | apply Kd.S_alloc | apply Kd.S_drewN | apply Kd.S_drew)); exact HO_5.out) hb); have n1_ := Aside0.mk (Kd.R_below (by (with_reducible repeat (first | apply Kd.R_alloc | apply Kd.R_drewN | apply Kd.R_drew)); exact HO_8.out) hb); have n2_ := Aside0.mk (below_step (by repeat (first | (with_reducible first | exact HB.out | apply below_alloc | apply pw_below_drewN | apply below_drew1) | exact HB.out)) hb); clear HO_5; clear HO_8; clear HB; have HO_5 := n0_; have HO_8 := n1_; have HB := n2_; clear n0_ n1_ n2_; (try clear hb); (try clear hb2); (try clear hk); (try clear hi)) | ((with_reducible refine gate_dst (N := 9) rfl ?_); (try (refine gate_guard (by rfl) ?_; dsimp only)); refine box_event ?hg (N := 9) ?hd (cs := #[.bool false, .string (⟨#[]⟩ : ByteArray), .int .i64 0]) (t := 61) ?hr ?_; (case hd => rfl); (case hg => rfl); (case hr => first | (go_simp; done) | (go_simp; rfl)); intro gb358 hg w36 hbox hb; have n0_ := Aside0.mk (Kd.S_below (Kd.S_elderB (by (with_reducible repeat (first | apply Kd.S_alloc | apply Kd.S_drewN | apply Kd.S_drew)); exact HO_5.out) gb358 (Nat.le_of_eq hg.symm)) hb); have n1_ := Aside0.mk (Kd.R_below (Kd.R_elderB (by (with_reducible repeat (first | apply Kd.R_alloc | apply Kd.R_drewN | apply Kd.R_drew)); exact HO_8.out) gb358 (Nat.le_of_eq hg.symm)) hb); have n2_ := Aside0.mk (below_step (by repeat (first | (with_reducible first | exact HB.out | apply below_alloc | apply pw_below_drewN | apply below_drew1) | exact HB.out)) hb); have n3_ := Aside0.mk (hbox); have n4_ := Aside0.mk ((by rw [hg]; exact (below_size (by repeat (first | (with_reducible first | exact HB.out | apply below_alloc | apply pw_below_drewN | apply below_drew1) | exact HB.out))) : w.heap.size ≤ gb358)); have n5_ := Aside0.mk ((by rw [hg]; exact (below_size (by repeat (first | (with_reducible first | exact HB.out | apply below_alloc | apply pw_below_drewN | apply below_drew1) | exact HB.out))) : w.heap.size ≤ gb358)); clear HO_5; clear HO_8; clear HB; have HO_5 := n0_; have HO_8 := n1_; have HB := n2_; have BK358 := n3_; have GW358 := n4_; have GE358 := n5_; clear n0_ n1_ n2_ n3_ n4_ n5_; clear hb hbox hg; have hcz37_0 : w36.cell? ⟨gb358, 0, none⟩ = some (.bool false) := (blk_cell BK358.out 0).trans rfl; have hcz37_1 : w36.cell? ⟨gb358, 1, none⟩ = some (.string (⟨#[]⟩ : ByteArray)) := (blk_cell BK358.out 1).trans rfl; have hcz37_2 : w36.cell? ⟨gb358, 2, none⟩ = some (.int .i64 0) := (blk_cell BK358.out 2).trans rfl; have hfz37_0 := blk_frozen BK358.out 0; have hfz37_1 := blk_frozen BK358.out 1; have hfz37_2 := blk_frozen BK358.out 2))
                              go_ret3
                              exact ⟨_, by first | rfl | (simp [errW_none, errW_some] <;> rfl) | (simp [*, errW_none, errW_some] <;> rfl), by first | exact Kd.S_nil _ _ _ _ _ | exact Kd.N_nil _ _ _ _ _ | exact Kd.V_nil _ _ _ _ _ | exact Kd.Q_nil _ _ _ _ _ | exact Kd.R_nil _ _ _ _ _, by repeat (first | (with_reducible first | exact HB.out | apply below_alloc | apply pw_below_drewN | apply below_drew1 | refine below_set ?_ GE358.out) | exact HB.out)⟩
              · rw [if_neg c4] at H
                exact absurd H (by simp)
            · rw [if_neg c3] at H
              exact absurd H (by simp)
      · rw [if_neg c2] at H
        have c2b0 : decide (x6_1 < (a0.size : Int)) = false := decide_eq_false c2
        clear c2
        simp only [Option.some.injEq, Prod.mk.injEq] at H
        obtain ⟨rfl, rfl, rfl⟩ := H
        go_wp2
        go_ret3
        exact ⟨_, by first | rfl | (simp [errW_none, errW_some] <;> rfl) | (simp [*, errW_none, errW_some] <;> rfl), by (with_reducible repeat (first | apply Kd.S_alloc | apply Kd.S_drewN | apply Kd.S_drew)); exact HO_5.out, by repeat (first | (with_reducible first | exact HB.out | apply below_alloc | apply pw_below_drewN | apply below_drew1) | exact HB.out)⟩

end Go.Proofs.YtcabnjinfkjnjaaDoor.XH
