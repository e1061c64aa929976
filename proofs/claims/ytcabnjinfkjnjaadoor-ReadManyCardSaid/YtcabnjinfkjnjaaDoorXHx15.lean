-- Written by a program of this session (xprint.py over the kit's print): functions, their contracts, laws.
import Derived.Test.YtcabnjinfkjnjaaDoorXHx0
import Derived.Test.YtcabnjinfkjnjaaDoorXHx11
import Derived.Test.YtcabnjinfkjnjaaDoorXHx5
import Derived.Test.YtcabnjinfkjnjaaDoorGReadText
import Derived.Test.YtcabnjinfkjnjaaDoorGNum
namespace Go.Proofs.YtcabnjinfkjnjaaDoor.XH
open Go.RowKit Go.Proofs.YtcabnjinfkjnjaaDoorW.PrintWords Go.Proofs.YtcabnjinfkjnjaaDoorW.PrintLast Go.Proofs.YtcabnjinfkjnjaaDoorW.PrintMore Go.Proofs.YtcabnjinfkjnjaaDoor.X
attribute [local go_sem] max2_int min2_int max_two min_two max_three min_three max_four min_four   -- for this text's walks alone
set_option linter.unusedVariables false
set_option linter.unusedSimpArgs false

/-! ### eyewitnesslaw07_ReadMany: function 12 -/
mutual
def eyewitnesslaw07_ReadMany.j0 : Nat → Int → ByteArray → Option (Bool)
  | 0, _, _ => none
  | k + 1, x5, x6 => eyewitnesslaw07_ReadMany.l0 k x5 x6 (⟨#[]⟩ : ByteArray) 0
def eyewitnesslaw07_ReadMany.l0 : Nat → Int → ByteArray → ByteArray → Int → Option (Bool)
  | 0, _, _, _, _ => none
  | k + 1, x5, x6, x7, x8 => if x8 < 512 then (if x7.size + 5 ≤ 9223372036854775807 then (if (x7 ++ (⟨#[114, 58, 120, 61, 48]⟩ : ByteArray)).size + x6.size ≤ 9223372036854775807 then (eyewitnesslaw07_ReadMany.l0 k x5 x6 ((x7 ++ (⟨#[114, 58, 120, 61, 48]⟩ : ByteArray)) ++ x6) (wrap64 (x8 + 1))) else (none)) else (none)) else (if x7.size + x7.size ≤ 9223372036854775807 then (if (x7 ++ x7).size + x7.size ≤ 9223372036854775807 then (if ((x7 ++ x7) ++ x7).size + x7.size ≤ 9223372036854775807 then (if (((x7 ++ x7) ++ x7) ++ x7).size + x7.size ≤ 9223372036854775807 then (if ((((x7 ++ x7) ++ x7) ++ x7) ++ x7).size + x7.size ≤ 9223372036854775807 then (if (((((x7 ++ x7) ++ x7) ++ x7) ++ x7) ++ x7).size + x7.size ≤ 9223372036854775807 then (if ((((((x7 ++ x7) ++ x7) ++ x7) ++ x7) ++ x7) ++ x7).size + x7.size ≤ 9223372036854775807 then (if (((((((x7 ++ x7) ++ x7) ++ x7) ++ x7) ++ x7) ++ x7) ++ x7).size + x7.size ≤ 9223372036854775807 then (if 0 ≤ (wrap64 ((wrap64 (6 * x5)) - 1)) then (if (wrap64 ((wrap64 (6 * x5)) - 1)) ≤ (((((((((x7 ++ x7) ++ x7) ++ x7) ++ x7) ++ x7) ++ x7) ++ x7) ++ x7).size : Int) then (if (((((((((x7 ++ x7) ++ x7) ++ x7) ++ x7) ++ x7) ++ x7) ++ x7) ++ x7).extract 0 ((wrap64 ((wrap64 (6 * x5)) - 1)) : Int).toNat).size + 1 ≤ 9223372036854775807 then ((read_Text.f k ((((((((((x7 ++ x7) ++ x7) ++ x7) ++ x7) ++ x7) ++ x7) ++ x7) ++ x7).extract 0 ((wrap64 ((wrap64 (6 * x5)) - 1)) : Int).toNat) ++ (⟨#[10]⟩ : ByteArray))).bind fun bt419 => (if x5 > 4096 then ((eyewitnesslaw07_awake.f k).bind fun t424 => (if t424 = true then (if bt419.2.2 = 3 then (if bt419.2.1 = 24576 then (some ((bt419.1.length : Int) == 0)) else (some false)) else (some false)) else (some false))) else ((eyewitnesslaw07_awake.f k).bind fun t425 => (if t425 = true then (if bt419.2.2 = 0 then ((eyewitnessref06_Count.f k bt419.1).bind fun t426 => (some (t426 == x5))) else (some false)) else (some false))))) else (none)) else (none)) else (none)) else (none)) else (none)) else (none)) else (none)) else (none)) else (none)) else (none)) else (none))
end
def eyewitnesslaw07_ReadMany.f (k : Nat) (a0 : Int) (a1 : Bool) : Option (Bool) := if a1 = true then (eyewitnesslaw07_ReadMany.j0 k (wrap64 (4090 + (wrap64 (Int.tmod a0 12)))) (⟨#[10]⟩ : ByteArray)) else (eyewitnesslaw07_ReadMany.j0 k (wrap64 (4090 + (wrap64 (Int.tmod a0 12)))) (⟨#[32]⟩ : ByteArray))
theorem eyewitnesslaw07_ReadMany.mono_l : ∀ k, (∀ y0 y1, LeO (eyewitnesslaw07_ReadMany.j0 k y0 y1) (eyewitnesslaw07_ReadMany.j0 (k + 1) y0 y1)) ∧ (∀ y0 y1 y2 y3, LeO (eyewitnesslaw07_ReadMany.l0 k y0 y1 y2 y3) (eyewitnesslaw07_ReadMany.l0 (k + 1) y0 y1 y2 y3))
  | 0 => ⟨fun _ _ r h => by simp [eyewitnesslaw07_ReadMany.j0] at h, fun _ _ _ _ r h => by simp [eyewitnesslaw07_ReadMany.l0] at h⟩
  | k + 1 => by
    obtain ⟨ih0, ih1⟩ := eyewitnesslaw07_ReadMany.mono_l k
    refine ⟨?_, ?_⟩
    · intro y0 y1
      unfold eyewitnesslaw07_ReadMany.j0
      repeat' first
      | (with_reducible exact ih0 _ _)
      | (with_reducible exact ih1 _ _ _ _)
      | (with_reducible exact eyewitnesslaw07_awake.mono _)
      | (with_reducible exact eyewitnessref06_Count.mono _ _)
      | (with_reducible exact read_Text.mono _ _)
      | (with_reducible exact LeO.refl _)
      | (with_reducible exact LeO.none _)
      | (with_reducible refine LeO.ite ?_ ?_)
      | (with_reducible refine LeO.bind ?_ (fun _ => ?_))
      | exact ih0 _ _
      | exact ih1 _ _ _ _
      | exact eyewitnesslaw07_awake.mono _
      | exact eyewitnessref06_Count.mono _ _
      | exact read_Text.mono _ _
      | exact LeO.none _
      | refine LeO.ite ?_ ?_
      | refine LeO.bind ?_ (fun _ => ?_)
    · intro y0 y1 y2 y3
      unfold eyewitnesslaw07_ReadMany.l0
      repeat' first
      | (with_reducible exact ih0 _ _)
      | (with_reducible exact ih1 _ _ _ _)
      | (with_reducible exact eyewitnesslaw07_awake.mono _)
      | (with_reducible exact eyewitnessref06_Count.mono _ _)
      | (with_reducible exact read_Text.mono _ _)
      | (with_reducible exact LeO.refl _)
      | (with_reducible exact LeO.none _)
      | (with_reducible refine LeO.ite ?_ ?_)
      | (with_reducible refine LeO.bind ?_ (fun _ => ?_))
      | exact ih0 _ _
      | exact ih1 _ _ _ _
      | exact eyewitnesslaw07_awake.mono _
      | exact eyewitnessref06_Count.mono _ _
      | exact read_Text.mono _ _
      | exact LeO.none _
      | refine LeO.ite ?_ ?_
      | refine LeO.bind ?_ (fun _ => ?_)
theorem eyewitnesslaw07_ReadMany.mono : ∀ a0 a1 k, LeO (eyewitnesslaw07_ReadMany.f k a0 a1) (eyewitnesslaw07_ReadMany.f (k + 1) a0 a1) := by
  intro a0 a1 k
  obtain ⟨ih0, ih1⟩ := eyewitnesslaw07_ReadMany.mono_l k
  unfold eyewitnesslaw07_ReadMany.f
  repeat' first
      | (with_reducible exact ih0 _ _)
      | (with_reducible exact ih1 _ _ _ _)
      | (with_reducible exact eyewitnesslaw07_awake.mono _)
      | (with_reducible exact eyewitnessref06_Count.mono _ _)
      | (with_reducible exact read_Text.mono _ _)
      | (with_reducible exact LeO.refl _)
      | (with_reducible exact LeO.none _)
      | (with_reducible refine LeO.ite ?_ ?_)
      | (with_reducible refine LeO.bind ?_ (fun _ => ?_))
      | exact ih0 _ _
      | exact ih1 _ _ _ _
      | exact eyewitnesslaw07_awake.mono _
      | exact eyewitnessref06_Count.mono _ _
      | exact read_Text.mono _ _
      | exact LeO.none _
      | refine LeO.ite ?_ ?_
      | refine LeO.bind ?_ (fun _ => ?_)
theorem cut_lt {x : ByteArray} {j : Int} (h1 : j ≤ x.size) (h2 : (x.extract 0 j.toNat).size + 1 ≤ 9223372036854775807) : (9223372036854775807 < j.toNat + 1) = False := eq_false (by rw [ByteArray.size_extract] at h2; omega)
set_option maxHeartbeats 8000000 in
set_option maxRecDepth 100000 in
theorem eyewitnesslaw07_ReadMany.calls (k : Nat) (a0 : Int) (a1 : Bool) (r : Bool) (w : World) (h : eyewitnesslaw07_ReadMany.f k a0 a1 = some r) :
    Calls Tryd.prog 12 #[.int .u8 a0, .bool a1] w fun e w' => e = .returned (.bool r) ∧ Below w.heap.size w w' := by
  have HB := Aside0.mk (Below.refl w.heap.size w)
  have H : (if a1 = true then (eyewitnesslaw07_ReadMany.j0 k (wrap64 (4090 + (wrap64 (Int.tmod a0 12)))) (⟨#[10]⟩ : ByteArray)) else (eyewitnesslaw07_ReadMany.j0 k (wrap64 (4090 + (wrap64 (Int.tmod a0 12)))) (⟨#[32]⟩ : ByteArray))) = some r := h
  clear h
  have HC3 := Aside0.mk H
  clear H
  go_enter Tryd.func12, Tryd.ntmps12
  go_upto_if 16 with (fail)
  go_cut [6] (fun v6 wc => ∃ (kq : Nat) (x6_2 : ByteArray), v6 = .string x6_2 ∧ Aside0 (eyewitnesslaw07_ReadMany.j0 kq (wrap64 (4090 + (wrap64 (Int.tmod a0 12)))) x6_2 = some r) ∧ Aside0 (kq ≤ k) ∧ Aside0 (Below w.heap.size w wc))
  case first =>
    have H := HC3.out
    clear HC3
    by_cases c4 : a1 = true
    · subst c4
      have H1 : (eyewitnesslaw07_ReadMany.j0 k (wrap64 (4090 + (wrap64 (Int.tmod a0 12)))) (⟨#[10]⟩ : ByteArray)) = some r := by rw [if_pos rfl] at H; exact H
      clear H
      have H := H1
      clear H1
      have H' := Aside0.mk H
      clear H
      go_wp2
      go_meet
      case rel => exact ⟨_, ((⟨#[10]⟩ : ByteArray)), (by first | rfl | (simp; done) | (simp [*]; done)), H', ⟨by first | omega | exact Nat.le_refl _⟩, ⟨by repeat (first | (with_reducible first | exact HB.out | apply below_alloc | apply pw_below_drewN | apply below_drew1) | exact HB.out)⟩⟩
    · replace c4 := Bool.eq_false_iff.mpr c4
      subst c4
      have H1 : (eyewitnesslaw07_ReadMany.j0 k (wrap64 (4090 + (wrap64 (Int.tmod a0 12)))) (⟨#[32]⟩ : ByteArray)) = some r := by rw [if_neg (show ¬ (false = true) by decide)] at H; exact H
      clear H
      have H := H1
      clear H1
      have H' := Aside0.mk H
      clear H
      go_wp2
      go_meet
      case rel => exact ⟨_, ((⟨#[32]⟩ : ByteArray)), (by first | rfl | (simp; done) | (simp [*]; done)), H', ⟨by first | omega | exact Nat.le_refl _⟩, ⟨by repeat (first | (with_reducible first | exact HB.out | apply below_alloc | apply pw_below_drewN | apply below_drew1) | exact HB.out)⟩⟩
  case rest =>
    clear HC3
    try clear c1
    try clear p2
    try clear c4
    obtain ⟨kq, x6_2, rfl, HA, HJ2, HB⟩ := hcut
    cases kq with
    | zero => exact absurd HA.out (by simp [eyewitnesslaw07_ReadMany.j0])
    | succ kj2 =>
      have H := HA.out
      clear HA
      simp only [eyewitnesslaw07_ReadMany.j0] at H
      have H' := Aside0.mk H
      clear H
      go_wp2
      go_loopg [7, 8] kj2 (fun kq v7 v8 w' => ∃ (x7_2 : ByteArray) (x8_2 : Int), v7 = .string x7_2 ∧ v8 = .int .i64 x8_2 ∧ Aside0 (eyewitnesslaw07_ReadMany.l0 kq (wrap64 (4090 + (wrap64 (Int.tmod a0 12)))) x6_2 x7_2 x8_2 = some r) ∧ Aside0 (kq ≤ kj2) ∧ Aside0 (Below w.heap.size w w'))
      case atStart => exact ⟨((⟨#[]⟩ : ByteArray)), (0), (by first | rfl | (simp; done) | (simp [*]; done)), (by first | rfl | (simp; done) | (simp [*]; done)), H', ⟨Nat.le_refl _⟩, ⟨by repeat (first | (with_reducible first | exact HB.out | apply below_alloc | apply pw_below_drewN | apply below_drew1) | exact HB.out)⟩⟩
      case round =>
        clear H'
        try clear c1
        try clear p2
        try clear c4
        try clear p2
        obtain ⟨x7_2, x8_2, rfl, rfl, HA, HK2, HB⟩ := hrel
        cases gk with
        | zero => exact absurd HA.out (by simp [eyewitnesslaw07_ReadMany.l0])
        | succ k2 =>
          have H := HA.out
          clear HA
          simp only [eyewitnesslaw07_ReadMany.l0] at H
          by_cases c5 : x8_2 < 512
          · rw [if_pos c5] at H
            have c5b0 : decide (x8_2 < 512) = true := decide_eq_true c5
            clear c5
            by_cases c6 : x7_2.size + 5 ≤ 9223372036854775807
            · rw [if_pos c6] at H
              have c6b0 := eq_true c6
              have c6b1 : decide (x7_2.size + 5 ≤ 9223372036854775807) = true := decide_eq_true c6
              try have c6b2 : (9223372036854775807 < x7_2.size + 5) = False := eq_false (Nat.not_lt.2 c6)
              by_cases c7 : (x7_2 ++ (⟨#[114, 58, 120, 61, 48]⟩ : ByteArray)).size + x6_2.size ≤ 9223372036854775807
              · rw [if_pos c7] at H
                have c7b0 := eq_true c7
                have c7b1 : decide ((x7_2 ++ (⟨#[114, 58, 120, 61, 48]⟩ : ByteArray)).size + x6_2.size ≤ 9223372036854775807) = true := decide_eq_true c7
                try have c7b2 : (9223372036854775807 < (x7_2 ++ (⟨#[114, 58, 120, 61, 48]⟩ : ByteArray)).size + x6_2.size) = False := eq_false (Nat.not_lt.2 c7)
                try (have c7b3 := c7b2; simp only [ByteArray.size_append] at c7b3)
                have H' := Aside0.mk H
                clear H
                go_wp2
                go_roundg k2
                case measure => have := HJ2.out; have := HK2.out; omega
                case rel => exact ⟨((x7_2 ++ (⟨#[114, 58, 120, 61, 48]⟩ : ByteArray)) ++ x6_2), (wrap64 (x8_2 + 1)), (by first | rfl | (simp; done) | (simp [*]; done)), (by first | rfl | (simp; done) | (simp [*]; done)), H', ⟨by have := HJ2.out; have := HK2.out; omega⟩, ⟨by repeat (first | (with_reducible first | exact HB.out | apply below_alloc | apply pw_below_drewN | apply below_drew1) | exact HB.out)⟩⟩
              · rw [if_neg c7] at H
                exact absurd H (by simp)
            · rw [if_neg c6] at H
              exact absurd H (by simp)
          · rw [if_neg c5] at H
            have c5b0 : decide (x8_2 < 512) = false := decide_eq_false c5
            clear c5
            by_cases c8 : x7_2.size + x7_2.size ≤ 9223372036854775807
            · rw [if_pos c8] at H
              have c8b0 := eq_true c8
              have c8b1 : decide (x7_2.size + x7_2.size ≤ 9223372036854775807) = true := decide_eq_true c8
              try have c8b2 : (9223372036854775807 < x7_2.size + x7_2.size) = False := eq_false (Nat.not_lt.2 c8)
              by_cases c9 : (x7_2 ++ x7_2).size + x7_2.size ≤ 9223372036854775807
              · rw [if_pos c9] at H
                have c9b0 := eq_true c9
                have c9b1 : decide ((x7_2 ++ x7_2).size + x7_2.size ≤ 9223372036854775807) = true := decide_eq_true c9
                try have c9b2 : (9223372036854775807 < (x7_2 ++ x7_2).size + x7_2.size) = False := eq_false (Nat.not_lt.2 c9)
                try (have c9b3 := c9b2; simp only [ByteArray.size_append] at c9b3)
                by_cases c10 : ((x7_2 ++ x7_2) ++ x7_2).size + x7_2.size ≤ 9223372036854775807
                · rw [if_pos c10] at H
                  have c10b0 := eq_true c10
                  have c10b1 : decide (((x7_2 ++ x7_2) ++ x7_2).size + x7_2.size ≤ 9223372036854775807) = true := decide_eq_true c10
                  try have c10b2 : (9223372036854775807 < ((x7_2 ++ x7_2) ++ x7_2).size + x7_2.size) = False := eq_false (Nat.not_lt.2 c10)
                  try (have c10b3 := c10b2; simp only [ByteArray.size_append] at c10b3)
                  by_cases c11 : (((x7_2 ++ x7_2) ++ x7_2) ++ x7_2).size + x7_2.size ≤ 9223372036854775807
                  · rw [if_pos c11] at H
                    have c11b0 := eq_true c11
                    have c11b1 : decide ((((x7_2 ++ x7_2) ++ x7_2) ++ x7_2).size + x7_2.size ≤ 9223372036854775807) = true := decide_eq_true c11
                    try have c11b2 : (9223372036854775807 < (((x7_2 ++ x7_2) ++ x7_2) ++ x7_2).size + x7_2.size) = False := eq_false (Nat.not_lt.2 c11)
                    try (have c11b3 := c11b2; simp only [ByteArray.size_append] at c11b3)
                    by_cases c12 : ((((x7_2 ++ x7_2) ++ x7_2) ++ x7_2) ++ x7_2).size + x7_2.size ≤ 9223372036854775807
                    · rw [if_pos c12] at H
                      have c12b0 := eq_true c12
                      have c12b1 : decide (((((x7_2 ++ x7_2) ++ x7_2) ++ x7_2) ++ x7_2).size + x7_2.size ≤ 9223372036854775807) = true := decide_eq_true c12
                      try have c12b2 : (9223372036854775807 < ((((x7_2 ++ x7_2) ++ x7_2) ++ x7_2) ++ x7_2).size + x7_2.size) = False := eq_false (Nat.not_lt.2 c12)
                      try (have c12b3 := c12b2; simp only [ByteArray.size_append] at c12b3)
                      by_cases c13 : (((((x7_2 ++ x7_2) ++ x7_2) ++ x7_2) ++ x7_2) ++ x7_2).size + x7_2.size ≤ 9223372036854775807
                      · rw [if_pos c13] at H
                        have c13b0 := eq_true c13
                        have c13b1 : decide ((((((x7_2 ++ x7_2) ++ x7_2) ++ x7_2) ++ x7_2) ++ x7_2).size + x7_2.size ≤ 9223372036854775807) = true := decide_eq_true c13
                        try have c13b2 : (9223372036854775807 < (((((x7_2 ++ x7_2) ++ x7_2) ++ x7_2) ++ x7_2) ++ x7_2).size + x7_2.size) = False := eq_false (Nat.not_lt.2 c13)
                        try (have c13b3 := c13b2; simp only [ByteArray.size_append] at c13b3)
                        by_cases c14 : ((((((x7_2 ++ x7_2) ++ x7_2) ++ x7_2) ++ x7_2) ++ x7_2) ++ x7_2).size + x7_2.size ≤ 9223372036854775807
                        · rw [if_pos c14] at H
                          have c14b0 := eq_true c14
                          have c14b1 : decide (((((((x7_2 ++ x7_2) ++ x7_2) ++ x7_2) ++ x7_2) ++ x7_2) ++ x7_2).size + x7_2.size ≤ 9223372036854775807) = true := decide_eq_true c14
                          try have c14b2 : (9223372036854775807 < ((((((x7_2 ++ x7_2) ++ x7_2) ++ x7_2) ++ x7_2) ++ x7_2) ++ x7_2).size + x7_2.size) = False := eq_false (Nat.not_lt.2 c14)
                          try (have c14b3 := c14b2; simp only [ByteArray.size_append] at c14b3)
                          by_cases c15 : (((((((x7_2 ++ x7_2) ++ x7_2) ++ x7_2) ++ x7_2) ++ x7_2) ++ x7_2) ++ x7_2).size + x7_2.size ≤ 9223372036854775807
                          · rw [if_pos c15] at H
                            have c15b0 := eq_true c15
                            have c15b1 : decide ((((((((x7_2 ++ x7_2) ++ x7_2) ++ x7_2) ++ x7_2) ++ x7_2) ++ x7_2) ++ x7_2).size + x7_2.size ≤ 9223372036854775807) = true := decide_eq_true c15
                            try have c15b2 : (9223372036854775807 < (((((((x7_2 ++ x7_2) ++ x7_2) ++ x7_2) ++ x7_2) ++ x7_2) ++ x7_2) ++ x7_2).size + x7_2.size) = False := eq_false (Nat.not_lt.2 c15)
                            try (have c15b3 := c15b2; simp only [ByteArray.size_append] at c15b3)
                            obtain ⟨ji16, hji16⟩ : ∃ j_ : Int, (wrap64 ((wrap64 (6 * (wrap64 (4090 + (wrap64 (Int.tmod a0 12)))))) - 1)) = j_ := ⟨_, rfl⟩
                            replace H : (if 0 ≤ (ji16) then (if (ji16) ≤ (((((((((x7_2 ++ x7_2) ++ x7_2) ++ x7_2) ++ x7_2) ++ x7_2) ++ x7_2) ++ x7_2) ++ x7_2).size : Int) then (if (((((((((x7_2 ++ x7_2) ++ x7_2) ++ x7_2) ++ x7_2) ++ x7_2) ++ x7_2) ++ x7_2) ++ x7_2).extract 0 ((ji16) : Int).toNat).size + 1 ≤ 9223372036854775807 then ((read_Text.f k2 ((((((((((x7_2 ++ x7_2) ++ x7_2) ++ x7_2) ++ x7_2) ++ x7_2) ++ x7_2) ++ x7_2) ++ x7_2).extract 0 ((ji16) : Int).toNat) ++ (⟨#[10]⟩ : ByteArray))).bind fun bt419 => (if (wrap64 (4090 + (wrap64 (Int.tmod a0 12)))) > 4096 then ((eyewitnesslaw07_awake.f k2).bind fun t424 => (if t424 = true then (if bt419.2.2 = 3 then (if bt419.2.1 = 24576 then (some ((bt419.1.length : Int) == 0)) else (some false)) else (some false)) else (some false))) else ((eyewitnesslaw07_awake.f k2).bind fun t425 => (if t425 = true then (if bt419.2.2 = 0 then ((eyewitnessref06_Count.f k2 bt419.1).bind fun t426 => (some (t426 == (wrap64 (4090 + (wrap64 (Int.tmod a0 12))))))) else (some false)) else (some false))))) else (none)) else (none)) else (none)) = some r := by first | (rw [hji16] at H; exact H) | (simp only [hji16] at H ⊢; exact H)
                            have hji16w : (IntKind.i64.wrap ((wrap64 (6 * (wrap64 (4090 + (wrap64 (Int.tmod a0 12)))))) - 1)) = ji16 := (i64_w _).trans hji16
                            by_cases c17 : 0 ≤ (ji16)
                            · rw [if_pos c17] at H
                              have c17b0 := eq_true c17
                              have c17b1 : decide (0 ≤ (ji16)) = true := decide_eq_true c17
                              clear c17
                              by_cases c18 : (ji16) ≤ (((((((((x7_2 ++ x7_2) ++ x7_2) ++ x7_2) ++ x7_2) ++ x7_2) ++ x7_2) ++ x7_2) ++ x7_2).size : Int)
                              · rw [if_pos c18] at H
                                have c18b0 := eq_true c18
                                have c18b1 : decide ((ji16) ≤ (((((((((x7_2 ++ x7_2) ++ x7_2) ++ x7_2) ++ x7_2) ++ x7_2) ++ x7_2) ++ x7_2) ++ x7_2).size : Int)) = true := decide_eq_true c18
                                have c18b2 := c18
                                simp only [ByteArray.size_append, Int.natCast_add] at c18b2
                                have c18b3 := eq_false (Int.not_lt.2 c18b2)
                                by_cases c19 : (((((((((x7_2 ++ x7_2) ++ x7_2) ++ x7_2) ++ x7_2) ++ x7_2) ++ x7_2) ++ x7_2) ++ x7_2).extract 0 ((ji16) : Int).toNat).size + 1 ≤ 9223372036854775807
                                · rw [if_pos c19] at H
                                  have c19b0 := eq_true c19
                                  have c19b1 : decide ((((((((((x7_2 ++ x7_2) ++ x7_2) ++ x7_2) ++ x7_2) ++ x7_2) ++ x7_2) ++ x7_2) ++ x7_2).extract 0 ((ji16) : Int).toNat).size + 1 ≤ 9223372036854775807) = true := decide_eq_true c19
                                  try have c19b2 : (9223372036854775807 < (((((((((x7_2 ++ x7_2) ++ x7_2) ++ x7_2) ++ x7_2) ++ x7_2) ++ x7_2) ++ x7_2) ++ x7_2).extract 0 ((ji16) : Int).toNat).size + 1) = False := eq_false (Nat.not_lt.2 c19)
                                  try (have c19b3 := c19b2; simp only [ByteArray.size_append] at c19b3)
                                  have c19b4 := cut_lt c18 c19
                                  replace H := Option.bind_eq_some_iff.mp H
                                  obtain ⟨⟨t419, t420, t421⟩, A200, H⟩ := H
                                  replace H : (if (wrap64 (4090 + (wrap64 (Int.tmod a0 12)))) > 4096 then ((eyewitnesslaw07_awake.f k2).bind fun t424 => (if t424 = true then (if t421 = 3 then (if t420 = 24576 then (some ((t419.length : Int) == 0)) else (some false)) else (some false)) else (some false))) else ((eyewitnesslaw07_awake.f k2).bind fun t425 => (if t425 = true then (if t421 = 0 then ((eyewitnessref06_Count.f k2 t419).bind fun t426 => (some (t426 == (wrap64 (4090 + (wrap64 (Int.tmod a0 12))))))) else (some false)) else (some false)))) = some r := H
                                  have A20 := Aside0.mk A200
                                  clear A200
                                  by_cases c21 : (wrap64 (4090 + (wrap64 (Int.tmod a0 12)))) > 4096
                                  · rw [if_pos c21] at H
                                    have c21b0 : decide (4096 < (wrap64 (4090 + (wrap64 (Int.tmod a0 12))))) = true := decide_eq_true c21
                                    clear c21
                                    replace H := Option.bind_eq_some_iff.mp H
                                    obtain ⟨t424, A220, H⟩ := H
                                    replace H : (if t424 = true then (if t421 = 3 then (if t420 = 24576 then (some ((t419.length : Int) == 0)) else (some false)) else (some false)) else (some false)) = some r := H
                                    have A22 := Aside0.mk A220
                                    clear A220
                                    by_cases c23 : t424 = true
                                    · subst c23
                                      have H1 : (if t421 = 3 then (if t420 = 24576 then (some ((t419.length : Int) == 0)) else (some false)) else (some false)) = some r := by rw [if_pos rfl] at H; exact H
                                      clear H
                                      have H := H1
                                      clear H1
                                      by_cases c24 : t421 = 3
                                      · rw [if_pos c24] at H
                                        have c24b0 : (t421 == 3) = true := beq_iff_eq.mpr c24
                                        have c24b1 : (t421 != 3) = false := bne_eq_false_iff_eq.mpr c24
                                        clear c24
                                        by_cases c25 : t420 = 24576
                                        · rw [if_pos c25] at H
                                          have c25b0 : (t420 == 24576) = true := beq_iff_eq.mpr c25
                                          have c25b1 : (t420 != 24576) = false := bne_eq_false_iff_eq.mpr c25
                                          clear c25
                                          obtain rfl := Option.some.inj H
                                          go_wp2_with (first | ((with_reducible refine gate_callee (f := 43) rfl ?_); refine goesL_ (some 50) rfl rfl Tryd.func43 (by kernel_rfl) rfl #[.string ((((((((((x7_2 ++ x7_2) ++ x7_2) ++ x7_2) ++ x7_2) ++ x7_2) ++ x7_2) ++ x7_2) ++ x7_2).extract 0 ((ji16) : Int).toNat) ++ (⟨#[10]⟩ : ByteArray))] rfl (by (try simp only [List.map_toArray, List.map_cons, List.map_nil]); first | done | (simp only [hji16]; rfl) | rfl | (simp only [List.length_drop, List.length_take]; rfl)) ?_; (with_reducible refine (read_Text.calls k2 ((((((((((x7_2 ++ x7_2) ++ x7_2) ++ x7_2) ++ x7_2) ++ x7_2) ++ x7_2) ++ x7_2) ++ x7_2).extract 0 ((ji16) : Int).toNat) ++ (⟨#[10]⟩ : ByteArray)) t419 t420 t421 _ A20.out).mono ?_); rintro e w26 ⟨v422, rfl, ho0, hb⟩; refine ⟨_, rfl, ?_⟩; have n0_ := Aside0.mk (Kd.S_lower ho0 (below_size (by repeat (first | (with_reducible first | exact HB.out | apply below_alloc | apply pw_below_drewN | apply below_drew1) | exact HB.out)))); have n1_ := Aside0.mk (below_step (by repeat (first | (with_reducible first | exact HB.out | apply below_alloc | apply pw_below_drewN | apply below_drew1) | exact HB.out)) hb); clear HB; have HO423 := n0_; have HB := n1_; clear n0_ n1_; (try clear hb); (try clear hb2); (try clear hk); (try clear hi); (try clear ho0)) | ((with_reducible refine gate_callee (f := 42) rfl ?_); refine goesL_ (some 56) rfl rfl Tryd.func42 (by kernel_rfl) rfl #[] rfl (by (try simp only [List.map_toArray, List.map_cons, List.map_nil]); first | done | rfl | (simp only [List.length_drop, List.length_take]; rfl)) ?_; (with_reducible refine (eyewitnesslaw07_awake.calls k2  true _ A22.out).mono ?_); rintro e w27 ⟨rfl, hb⟩; refine ⟨_, rfl, ?_⟩; have n0_ := Aside0.mk (Kd.S_below (by (with_reducible repeat (first | apply Kd.S_alloc | apply Kd.S_drewN | apply Kd.S_drew)); exact HO423.out) hb); have n1_ := Aside0.mk (below_step (by repeat (first | (with_reducible first | exact HB.out | apply below_alloc | apply pw_below_drewN | apply below_drew1) | exact HB.out)) hb); clear HO423; clear HB; have HO423 := n0_; have HB := n1_; clear n0_ n1_; (try clear hb); (try clear hb2); (try clear hk); (try clear hi); obtain ⟨Ao28, co28, eo28⟩ := Kd.S_slice HO423.out; subst eo28))
                                          go_ret
                                          exact ⟨by first | rfl | (simp [errW_none, errW_some] <;> rfl) | (simp only [← hji16]; first | rfl | (simp [errW_none, errW_some] <;> rfl)) | (simp [*, errW_none, errW_some] <;> rfl), by repeat (first | (with_reducible first | exact HB.out | apply below_alloc | apply pw_below_drewN | apply below_drew1) | exact HB.out)⟩
                                        · rw [if_neg c25] at H
                                          have c25b0 : (t420 == 24576) = false := beq_eq_false_iff_ne.mpr c25
                                          have c25b1 : (t420 != 24576) = true := bne_iff_ne.mpr c25
                                          obtain rfl := Option.some.inj H
                                          go_wp2_with (first | ((with_reducible refine gate_callee (f := 43) rfl ?_); refine goesL_ (some 50) rfl rfl Tryd.func43 (by kernel_rfl) rfl #[.string ((((((((((x7_2 ++ x7_2) ++ x7_2) ++ x7_2) ++ x7_2) ++ x7_2) ++ x7_2) ++ x7_2) ++ x7_2).extract 0 ((ji16) : Int).toNat) ++ (⟨#[10]⟩ : ByteArray))] rfl (by (try simp only [List.map_toArray, List.map_cons, List.map_nil]); first | done | (simp only [hji16]; rfl) | rfl | (simp only [List.length_drop, List.length_take]; rfl)) ?_; (with_reducible refine (read_Text.calls k2 ((((((((((x7_2 ++ x7_2) ++ x7_2) ++ x7_2) ++ x7_2) ++ x7_2) ++ x7_2) ++ x7_2) ++ x7_2).extract 0 ((ji16) : Int).toNat) ++ (⟨#[10]⟩ : ByteArray)) t419 t420 t421 _ A20.out).mono ?_); rintro e w29 ⟨v422, rfl, ho0, hb⟩; refine ⟨_, rfl, ?_⟩; have n0_ := Aside0.mk (Kd.S_lower ho0 (below_size (by repeat (first | (with_reducible first | exact HB.out | apply below_alloc | apply pw_below_drewN | apply below_drew1) | exact HB.out)))); have n1_ := Aside0.mk (below_step (by repeat (first | (with_reducible first | exact HB.out | apply below_alloc | apply pw_below_drewN | apply below_drew1) | exact HB.out)) hb); clear HB; have HO423 := n0_; have HB := n1_; clear n0_ n1_; (try clear hb); (try clear hb2); (try clear hk); (try clear hi); (try clear ho0)) | ((with_reducible refine gate_callee (f := 42) rfl ?_); refine goesL_ (some 56) rfl rfl Tryd.func42 (by kernel_rfl) rfl #[] rfl (by (try simp only [List.map_toArray, List.map_cons, List.map_nil]); first | done | rfl | (simp only [List.length_drop, List.length_take]; rfl)) ?_; (with_reducible refine (eyewitnesslaw07_awake.calls k2  true _ A22.out).mono ?_); rintro e w30 ⟨rfl, hb⟩; refine ⟨_, rfl, ?_⟩; have n0_ := Aside0.mk (Kd.S_below (by (with_reducible repeat (first | apply Kd.S_alloc | apply Kd.S_drewN | apply Kd.S_drew)); exact HO423.out) hb); have n1_ := Aside0.mk (below_step (by repeat (first | (with_reducible first | exact HB.out | apply below_alloc | apply pw_below_drewN | apply below_drew1) | exact HB.out)) hb); clear HO423; clear HB; have HO423 := n0_; have HB := n1_; clear n0_ n1_; (try clear hb); (try clear hb2); (try clear hk); (try clear hi)))
                                          go_ret
                                          exact ⟨by first | rfl | (simp [errW_none, errW_some] <;> rfl) | (simp only [← hji16]; first | rfl | (simp [errW_none, errW_some] <;> rfl)) | (simp [*, errW_none, errW_some] <;> rfl), by repeat (first | (with_reducible first | exact HB.out | apply below_alloc | apply pw_below_drewN | apply below_drew1) | exact HB.out)⟩
                                      · rw [if_neg c24] at H
                                        have c24b0 : (t421 == 3) = false := beq_eq_false_iff_ne.mpr c24
                                        have c24b1 : (t421 != 3) = true := bne_iff_ne.mpr c24
                                        obtain rfl := Option.some.inj H
                                        go_wp2_with (first | ((with_reducible refine gate_callee (f := 43) rfl ?_); refine goesL_ (some 50) rfl rfl Tryd.func43 (by kernel_rfl) rfl #[.string ((((((((((x7_2 ++ x7_2) ++ x7_2) ++ x7_2) ++ x7_2) ++ x7_2) ++ x7_2) ++ x7_2) ++ x7_2).extract 0 ((ji16) : Int).toNat) ++ (⟨#[10]⟩ : ByteArray))] rfl (by (try simp only [List.map_toArray, List.map_cons, List.map_nil]); first | done | (simp only [hji16]; rfl) | rfl | (simp only [List.length_drop, List.length_take]; rfl)) ?_; (with_reducible refine (read_Text.calls k2 ((((((((((x7_2 ++ x7_2) ++ x7_2) ++ x7_2) ++ x7_2) ++ x7_2) ++ x7_2) ++ x7_2) ++ x7_2).extract 0 ((ji16) : Int).toNat) ++ (⟨#[10]⟩ : ByteArray)) t419 t420 t421 _ A20.out).mono ?_); rintro e w31 ⟨v422, rfl, ho0, hb⟩; refine ⟨_, rfl, ?_⟩; have n0_ := Aside0.mk (Kd.S_lower ho0 (below_size (by repeat (first | (with_reducible first | exact HB.out | apply below_alloc | apply pw_below_drewN | apply below_drew1) | exact HB.out)))); have n1_ := Aside0.mk (below_step (by repeat (first | (with_reducible first | exact HB.out | apply below_alloc | apply pw_below_drewN | apply below_drew1) | exact HB.out)) hb); clear HB; have HO423 := n0_; have HB := n1_; clear n0_ n1_; (try clear hb); (try clear hb2); (try clear hk); (try clear hi); (try clear ho0)) | ((with_reducible refine gate_callee (f := 42) rfl ?_); refine goesL_ (some 56) rfl rfl Tryd.func42 (by kernel_rfl) rfl #[] rfl (by (try simp only [List.map_toArray, List.map_cons, List.map_nil]); first | done | rfl | (simp only [List.length_drop, List.length_take]; rfl)) ?_; (with_reducible refine (eyewitnesslaw07_awake.calls k2  true _ A22.out).mono ?_); rintro e w32 ⟨rfl, hb⟩; refine ⟨_, rfl, ?_⟩; have n0_ := Aside0.mk (Kd.S_below (by (with_reducible repeat (first | apply Kd.S_alloc | apply Kd.S_drewN | apply Kd.S_drew)); exact HO423.out) hb); have n1_ := Aside0.mk (below_step (by repeat (first | (with_reducible first | exact HB.out | apply below_alloc | apply pw_below_drewN | apply below_drew1) | exact HB.out)) hb); clear HO423; clear HB; have HO423 := n0_; have HB := n1_; clear n0_ n1_; (try clear hb); (try clear hb2); (try clear hk); (try clear hi)))
                                        go_ret
                                        exact ⟨by first | rfl | (simp [errW_none, errW_some] <;> rfl) | (simp only [← hji16]; first | rfl | (simp [errW_none, errW_some] <;> rfl)) | (simp [*, errW_none, errW_some] <;> rfl), by repeat (first | (with_reducible first | exact HB.out | apply below_alloc | apply pw_below_drewN | apply below_drew1) | exact HB.out)⟩
                                    · replace c23 := Bool.eq_false_iff.mpr c23
                                      subst c23
                                      have H1 : (some false) = some r := by rw [if_neg (show ¬ (false = true) by decide)] at H; exact H
                                      clear H
                                      have H := H1
                                      clear H1
                                      obtain rfl := Option.some.inj H
                                      go_wp2_with (first | ((with_reducible refine gate_callee (f := 43) rfl ?_); refine goesL_ (some 50) rfl rfl Tryd.func43 (by kernel_rfl) rfl #[.string ((((((((((x7_2 ++ x7_2) ++ x7_2) ++ x7_2) ++ x7_2) ++ x7_2) ++ x7_2) ++ x7_2) ++ x7_2).extract 0 ((ji16) : Int).toNat) ++ (⟨#[10]⟩ : ByteArray))] rfl (by (try simp only [List.map_toArray, List.map_cons, List.map_nil]); first | done | (simp only [hji16]; rfl) | rfl | (simp only [List.length_drop, List.length_take]; rfl)) ?_; (with_reducible refine (read_Text.calls k2 ((((((((((x7_2 ++ x7_2) ++ x7_2) ++ x7_2) ++ x7_2) ++ x7_2) ++ x7_2) ++ x7_2) ++ x7_2).extract 0 ((ji16) : Int).toNat) ++ (⟨#[10]⟩ : ByteArray)) t419 t420 t421 _ A20.out).mono ?_); rintro e w33 ⟨v422, rfl, ho0, hb⟩; refine ⟨_, rfl, ?_⟩; have n0_ := Aside0.mk (Kd.S_lower ho0 (below_size (by repeat (first | (with_reducible first | exact HB.out | apply below_alloc | apply pw_below_drewN | apply below_drew1) | exact HB.out)))); have n1_ := Aside0.mk (below_step (by repeat (first | (with_reducible first | exact HB.out | apply below_alloc | apply pw_below_drewN | apply below_drew1) | exact HB.out)) hb); clear HB; have HO423 := n0_; have HB := n1_; clear n0_ n1_; (try clear hb); (try clear hb2); (try clear hk); (try clear hi); (try clear ho0)) | ((with_reducible refine gate_callee (f := 42) rfl ?_); refine goesL_ (some 56) rfl rfl Tryd.func42 (by kernel_rfl) rfl #[] rfl (by (try simp only [List.map_toArray, List.map_cons, List.map_nil]); first | done | rfl | (simp only [List.length_drop, List.length_take]; rfl)) ?_; (with_reducible refine (eyewitnesslaw07_awake.calls k2  false _ A22.out).mono ?_); rintro e w34 ⟨rfl, hb⟩; refine ⟨_, rfl, ?_⟩; have n0_ := Aside0.mk (Kd.S_below (by (with_reducible repeat (first | apply Kd.S_alloc | apply Kd.S_drewN | apply Kd.S_drew)); exact HO423.out) hb); have n1_ := Aside0.mk (below_step (by repeat (first | (with_reducible first | exact HB.out | apply below_alloc | apply pw_below_drewN | apply below_drew1) | exact HB.out)) hb); clear HO423; clear HB; have HO423 := n0_; have HB := n1_; clear n0_ n1_; (try clear hb); (try clear hb2); (try clear hk); (try clear hi)))
                                      go_ret
                                      exact ⟨by first | rfl | (simp [errW_none, errW_some] <;> rfl) | (simp only [← hji16]; first | rfl | (simp [errW_none, errW_some] <;> rfl)) | (simp [*, errW_none, errW_some] <;> rfl), by repeat (first | (with_reducible first | exact HB.out | apply below_alloc | apply pw_below_drewN | apply below_drew1) | exact HB.out)⟩
                                  · rw [if_neg c21] at H
                                    have c21b0 : decide (4096 < (wrap64 (4090 + (wrap64 (Int.tmod a0 12))))) = false := decide_eq_false c21
                                    clear c21
                                    replace H := Option.bind_eq_some_iff.mp H
                                    obtain ⟨t425, A350, H⟩ := H
                                    replace H : (if t425 = true then (if t421 = 0 then ((eyewitnessref06_Count.f k2 t419).bind fun t426 => (some (t426 == (wrap64 (4090 + (wrap64 (Int.tmod a0 12))))))) else (some false)) else (some false)) = some r := H
                                    have A35 := Aside0.mk A350
                                    clear A350
                                    by_cases c36 : t425 = true
                                    · subst c36
                                      have H1 : (if t421 = 0 then ((eyewitnessref06_Count.f k2 t419).bind fun t426 => (some (t426 == (wrap64 (4090 + (wrap64 (Int.tmod a0 12))))))) else (some false)) = some r := by rw [if_pos rfl] at H; exact H
                                      clear H
                                      have H := H1
                                      clear H1
                                      by_cases c37 : t421 = 0
                                      · rw [if_pos c37] at H
                                        have c37b0 : (t421 == 0) = true := beq_iff_eq.mpr c37
                                        have c37b1 : (t421 != 0) = false := bne_eq_false_iff_eq.mpr c37
                                        clear c37
                                        replace H := Option.bind_eq_some_iff.mp H
                                        obtain ⟨t426, A380, H⟩ := H
                                        replace H : (some (t426 == (wrap64 (4090 + (wrap64 (Int.tmod a0 12)))))) = some r := H
                                        have A38 := Aside0.mk A380
                                        clear A380
                                        obtain rfl := Option.some.inj H
                                        go_wp2_with (first | ((with_reducible refine gate_callee (f := 43) rfl ?_); refine goesL_ (some 50) rfl rfl Tryd.func43 (by kernel_rfl) rfl #[.string ((((((((((x7_2 ++ x7_2) ++ x7_2) ++ x7_2) ++ x7_2) ++ x7_2) ++ x7_2) ++ x7_2) ++ x7_2).extract 0 ((ji16) : Int).toNat) ++ (⟨#[10]⟩ : ByteArray))] rfl (by (try simp only [List.map_toArray, List.map_cons, List.map_nil]); first | done | (simp only [hji16]; rfl) | rfl | (simp only [List.length_drop, List.length_take]; rfl)) ?_; (with_reducible refine (read_Text.calls k2 ((((((((((x7_2 ++ x7_2) ++ x7_2) ++ x7_2) ++ x7_2) ++ x7_2) ++ x7_2) ++ x7_2) ++ x7_2).extract 0 ((ji16) : Int).toNat) ++ (⟨#[10]⟩ : ByteArray)) t419 t420 t421 _ A20.out).mono ?_); rintro e w39 ⟨v422, rfl, ho0, hb⟩; refine ⟨_, rfl, ?_⟩; have n0_ := Aside0.mk (Kd.S_lower ho0 (below_size (by repeat (first | (with_reducible first | exact HB.out | apply below_alloc | apply pw_below_drewN | apply below_drew1) | exact HB.out)))); have n1_ := Aside0.mk (below_step (by repeat (first | (with_reducible first | exact HB.out | apply below_alloc | apply pw_below_drewN | apply below_drew1) | exact HB.out)) hb); clear HB; have HO423 := n0_; have HB := n1_; clear n0_ n1_; (try clear hb); (try clear hb2); (try clear hk); (try clear hi); (try clear ho0)) | ((with_reducible refine gate_callee (f := 42) rfl ?_); refine goesL_ (some 70) rfl rfl Tryd.func42 (by kernel_rfl) rfl #[] rfl (by (try simp only [List.map_toArray, List.map_cons, List.map_nil]); first | done | rfl | (simp only [List.length_drop, List.length_take]; rfl)) ?_; (with_reducible refine (eyewitnesslaw07_awake.calls k2  true _ A35.out).mono ?_); rintro e w40 ⟨rfl, hb⟩; refine ⟨_, rfl, ?_⟩; have n0_ := Aside0.mk (Kd.S_below (by (with_reducible repeat (first | apply Kd.S_alloc | apply Kd.S_drewN | apply Kd.S_drew)); exact HO423.out) hb); have n1_ := Aside0.mk (below_step (by repeat (first | (with_reducible first | exact HB.out | apply below_alloc | apply pw_below_drewN | apply below_drew1) | exact HB.out)) hb); clear HO423; clear HB; have HO423 := n0_; have HB := n1_; clear n0_ n1_; (try clear hb); (try clear hb2); (try clear hk); (try clear hi); obtain ⟨Ao41, co41, eo41⟩ := Kd.S_slice HO423.out; subst eo41) | (go_at_call 37; (with_reducible refine (eyewitnessref06_Count.calls k2 _ _ t419 t426 _ ?side1 ?side2 A38.out).mono ?_); (case side1 => repeat (first | exact (Kd.S_reads' HO423.out).2.2 | (with_reducible refine Kd.C_alloc ?_ _) | (with_reducible refine Kd.C_drewN ?_ _) | (with_reducible refine Kd.C_drew ?_))); (case side2 => exact (Kd.S_reads' HO423.out).2.1); rintro e w42 ⟨rfl, hb⟩; have n0_ := Aside0.mk (Kd.S_below (by (with_reducible repeat (first | apply Kd.S_alloc | apply Kd.S_drewN | apply Kd.S_drew)); exact HO423.out) hb); have n1_ := Aside0.mk (below_step (by repeat (first | (with_reducible first | exact HB.out | apply below_alloc | apply pw_below_drewN | apply below_drew1) | exact HB.out)) hb); clear HO423; clear HB; have HO423 := n0_; have HB := n1_; clear n0_ n1_; (try clear hb); (try clear hb2); (try clear hk); (try clear hi)))
                                        go_ret
                                        exact ⟨by first | rfl | (simp [errW_none, errW_some] <;> rfl) | (simp only [← hji16]; first | rfl | (simp [errW_none, errW_some] <;> rfl)) | (simp [*, errW_none, errW_some] <;> rfl), by repeat (first | (with_reducible first | exact HB.out | apply below_alloc | apply pw_below_drewN | apply below_drew1) | exact HB.out)⟩
                                      · rw [if_neg c37] at H
                                        have c37b0 : (t421 == 0) = false := beq_eq_false_iff_ne.mpr c37
                                        have c37b1 : (t421 != 0) = true := bne_iff_ne.mpr c37
                                        obtain rfl := Option.some.inj H
                                        go_wp2_with (first | ((with_reducible refine gate_callee (f := 43) rfl ?_); refine goesL_ (some 50) rfl rfl Tryd.func43 (by kernel_rfl) rfl #[.string ((((((((((x7_2 ++ x7_2) ++ x7_2) ++ x7_2) ++ x7_2) ++ x7_2) ++ x7_2) ++ x7_2) ++ x7_2).extract 0 ((ji16) : Int).toNat) ++ (⟨#[10]⟩ : ByteArray))] rfl (by (try simp only [List.map_toArray, List.map_cons, List.map_nil]); first | done | (simp only [hji16]; rfl) | rfl | (simp only [List.length_drop, List.length_take]; rfl)) ?_; (with_reducible refine (read_Text.calls k2 ((((((((((x7_2 ++ x7_2) ++ x7_2) ++ x7_2) ++ x7_2) ++ x7_2) ++ x7_2) ++ x7_2) ++ x7_2).extract 0 ((ji16) : Int).toNat) ++ (⟨#[10]⟩ : ByteArray)) t419 t420 t421 _ A20.out).mono ?_); rintro e w43 ⟨v422, rfl, ho0, hb⟩; refine ⟨_, rfl, ?_⟩; have n0_ := Aside0.mk (Kd.S_lower ho0 (below_size (by repeat (first | (with_reducible first | exact HB.out | apply below_alloc | apply pw_below_drewN | apply below_drew1) | exact HB.out)))); have n1_ := Aside0.mk (below_step (by repeat (first | (with_reducible first | exact HB.out | apply below_alloc | apply pw_below_drewN | apply below_drew1) | exact HB.out)) hb); clear HB; have HO423 := n0_; have HB := n1_; clear n0_ n1_; (try clear hb); (try clear hb2); (try clear hk); (try clear hi); (try clear ho0)) | ((with_reducible refine gate_callee (f := 42) rfl ?_); refine goesL_ (some 70) rfl rfl Tryd.func42 (by kernel_rfl) rfl #[] rfl (by (try simp only [List.map_toArray, List.map_cons, List.map_nil]); first | done | rfl | (simp only [List.length_drop, List.length_take]; rfl)) ?_; (with_reducible refine (eyewitnesslaw07_awake.calls k2  true _ A35.out).mono ?_); rintro e w44 ⟨rfl, hb⟩; refine ⟨_, rfl, ?_⟩; have n0_ := Aside0.mk (Kd.S_below (by (with_reducible repeat (first | apply Kd.S_alloc | apply Kd.S_drewN | apply Kd.S_drew)); exact HO423.out) hb); have n1_ := Aside0.mk (below_step (by repeat (first | (with_reducible first | exact HB.out | apply below_alloc | apply pw_below_drewN | apply below_drew1) | exact HB.out)) hb); clear HO423; clear HB; have HO423 := n0_; have HB := n1_; clear n0_ n1_; (try clear hb); (try clear hb2); (try clear hk); (try clear hi)))
                                        go_ret
                                        exact ⟨by first | rfl | (simp [errW_none, errW_some] <;> rfl) | (simp only [← hji16]; first | rfl | (simp [errW_none, errW_some] <;> rfl)) | (simp [*, errW_none, errW_some] <;> rfl), by repeat (first | (with_reducible first | exact HB.out | apply below_alloc | apply pw_below_drewN | apply below_drew1) | exact HB.out)⟩
                                    · replace c36 := Bool.eq_false_iff.mpr c36
                                      subst c36
                                      have H1 : (some false) = some r := by rw [if_neg (show ¬ (false = true) by decide)] at H; exact H
                                      clear H
                                      have H := H1
                                      clear H1
                                      obtain rfl := Option.some.inj H
                                      go_wp2_with (first | ((with_reducible refine gate_callee (f := 43) rfl ?_); refine goesL_ (some 50) rfl rfl Tryd.func43 (by kernel_rfl) rfl #[.string ((((((((((x7_2 ++ x7_2) ++ x7_2) ++ x7_2) ++ x7_2) ++ x7_2) ++ x7_2) ++ x7_2) ++ x7_2).extract 0 ((ji16) : Int).toNat) ++ (⟨#[10]⟩ : ByteArray))] rfl (by (try simp only [List.map_toArray, List.map_cons, List.map_nil]); first | done | (simp only [hji16]; rfl) | rfl | (simp only [List.length_drop, List.length_take]; rfl)) ?_; (with_reducible refine (read_Text.calls k2 ((((((((((x7_2 ++ x7_2) ++ x7_2) ++ x7_2) ++ x7_2) ++ x7_2) ++ x7_2) ++ x7_2) ++ x7_2).extract 0 ((ji16) : Int).toNat) ++ (⟨#[10]⟩ : ByteArray)) t419 t420 t421 _ A20.out).mono ?_); rintro e w45 ⟨v422, rfl, ho0, hb⟩; refine ⟨_, rfl, ?_⟩; have n0_ := Aside0.mk (Kd.S_lower ho0 (below_size (by repeat (first | (with_reducible first | exact HB.out | apply below_alloc | apply pw_below_drewN | apply below_drew1) | exact HB.out)))); have n1_ := Aside0.mk (below_step (by repeat (first | (with_reducible first | exact HB.out | apply below_alloc | apply pw_below_drewN | apply below_drew1) | exact HB.out)) hb); clear HB; have HO423 := n0_; have HB := n1_; clear n0_ n1_; (try clear hb); (try clear hb2); (try clear hk); (try clear hi); (try clear ho0)) | ((with_reducible refine gate_callee (f := 42) rfl ?_); refine goesL_ (some 70) rfl rfl Tryd.func42 (by kernel_rfl) rfl #[] rfl (by (try simp only [List.map_toArray, List.map_cons, List.map_nil]); first | done | rfl | (simp only [List.length_drop, List.length_take]; rfl)) ?_; (with_reducible refine (eyewitnesslaw07_awake.calls k2  false _ A35.out).mono ?_); rintro e w46 ⟨rfl, hb⟩; refine ⟨_, rfl, ?_⟩; have n0_ := Aside0.mk (Kd.S_below (by (with_reducible repeat (first | apply Kd.S_alloc | apply Kd.S_drewN | apply Kd.S_drew)); exact HO423.out) hb); have n1_ := Aside0.mk (below_step (by repeat (first | (with_reducible first | exact HB.out | apply below_alloc | apply pw_below_drewN | apply below_drew1) | exact HB.out)) hb); clear HO423; clear HB; have HO423 := n0_; have HB := n1_; clear n0_ n1_; (try clear hb); (try clear hb2); (try clear hk); (try clear hi)))
                                      go_ret
                                      exact ⟨by first | rfl | (simp [errW_none, errW_some] <;> rfl) | (simp only [← hji16]; first | rfl | (simp [errW_none, errW_some] <;> rfl)) | (simp [*, errW_none, errW_some] <;> rfl), by repeat (first | (with_reducible first | exact HB.out | apply below_alloc | apply pw_below_drewN | apply below_drew1) | exact HB.out)⟩
                                · rw [if_neg c19] at H
                                  exact absurd H (by simp)
                              · rw [if_neg c18] at H
                                exact absurd H (by simp)
                            · rw [if_neg c17] at H
                              exact absurd H (by simp)
                          · rw [if_neg c15] at H
                            exact absurd H (by simp)
                        · rw [if_neg c14] at H
                          exact absurd H (by simp)
                      · rw [if_neg c13] at H
                        exact absurd H (by simp)
                    · rw [if_neg c12] at H
                      exact absurd H (by simp)
                  · rw [if_neg c11] at H
                    exact absurd H (by simp)
                · rw [if_neg c10] at H
                  exact absurd H (by simp)
              · rw [if_neg c9] at H
                exact absurd H (by simp)
            · rw [if_neg c8] at H
              exact absurd H (by simp)

/-- THE ONE PURE STATEMENT of eyewitnesslaw07_ReadMany: yours. -/
def eyewitnesslaw07_ReadMany.Pure : Prop := ∀ (a0 : Int) (a1 : Bool), (Lit.int .u8 a0).wf = true → ∃ k, eyewitnesslaw07_ReadMany.f k a0 a1 = some true
theorem eyewitnesslaw07_ReadMany.walk (P : eyewitnesslaw07_ReadMany.Pure) (a0 : Int) (a1 : Bool) (w : World) (w0 : (Lit.int .u8 a0).wf = true) :
    Calls Tryd.prog 12 #[.int .u8 a0, .bool a1] w fun e w' => e = .returned (.bool true) ∧ Below w.heap.size w w' := by
  obtain ⟨k, h⟩ := P a0 a1 w0
  refine (eyewitnesslaw07_ReadMany.calls k a0 a1 true w h).mono ?_
  rintro e w' ⟨rfl, hd⟩
  exact ⟨rfl, hd⟩

end Go.Proofs.YtcabnjinfkjnjaaDoor.XH
