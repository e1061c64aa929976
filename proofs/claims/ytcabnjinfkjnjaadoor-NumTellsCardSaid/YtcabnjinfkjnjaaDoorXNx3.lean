-- Written by a program of this session (xprint.py over the kit's print): functions, their contracts, laws.
import Derived.Test.YtcabnjinfkjnjaaDoorXNx0
import Derived.Test.YtcabnjinfkjnjaaDoorXNx1
import Derived.Test.YtcabnjinfkjnjaaDoorXNx2
import Derived.Test.YtcabnjinfkjnjaaDoorGNum
import Derived.Test.YtcabnjinfkjnjaaDoorGNum
namespace Go.Proofs.YtcabnjinfkjnjaaDoor.X
open Go.RowKit Go.Proofs.YtcabnjinfkjnjaaDoorW.PrintWords Go.Proofs.YtcabnjinfkjnjaaDoorW.PrintLast Go.Proofs.YtcabnjinfkjnjaaDoorW.PrintMore
attribute [local go_sem] max2_int min2_int max_two min_two max_three min_three max_four min_four   -- for this text's walks alone
set_option linter.unusedVariables false
set_option linter.unusedSimpArgs false

/-! ### eyewitnesslaw05_NumTells: function 13 -/
def eyewitnesslaw05_NumTells.f (k : Nat) (a0 : Int) (a1 : ByteArray) (a2 : Int) : Option (Bool) := if (a1.size : Int) > 100 then ((eyewitnesslaw05_awake.f k).bind fun t119 => (some t119)) else ((num_Get.f a1).bind fun bt120 => ((eyewitnessref05_Get.f k a1).bind fun bt122 => ((eyewitnesslaw05_awake.f k).bind fun t124 => (if t124 = true then ((num_Put.f a0).bind fun t125 => ((eyewitnessref05_Put.f k a0).bind fun t126 => (if t125.toList = t126.toList then (if bt120.1 = bt122.1 then (if bt120.2 = bt122.2 then ((num_Span.f k a1 a2).bind fun t127 => ((eyewitnessref05_Span.f k a1 a2).bind fun t128 => (some (t127 == t128)))) else (some false)) else (some false)) else (some false)))) else (some false)))))
theorem eyewitnesslaw05_NumTells.mono : ∀ a0 a1 a2 k, LeO (eyewitnesslaw05_NumTells.f k a0 a1 a2) (eyewitnesslaw05_NumTells.f (k + 1) a0 a1 a2) := by
  intro a0 a1 a2 k
  unfold eyewitnesslaw05_NumTells.f
  repeat' first
      | (with_reducible exact eyewitnesslaw05_awake.mono _)
      | (with_reducible exact eyewitnessref05_Get.mono _ _)
      | (with_reducible exact eyewitnessref05_Put.mono _ _)
      | (with_reducible exact eyewitnessref05_Span.mono _ _ _)
      | (with_reducible exact num_Span.mono _ _ _)
      | (with_reducible exact LeO.refl _)
      | (with_reducible exact LeO.none _)
      | (with_reducible refine LeO.ite ?_ ?_)
      | (with_reducible refine LeO.bind ?_ (fun _ => ?_))
      | exact eyewitnesslaw05_awake.mono _
      | exact eyewitnessref05_Get.mono _ _
      | exact eyewitnessref05_Put.mono _ _
      | exact eyewitnessref05_Span.mono _ _ _
      | exact num_Span.mono _ _ _
      | exact LeO.none _
      | refine LeO.ite ?_ ?_
      | refine LeO.bind ?_ (fun _ => ?_)
set_option maxHeartbeats 8000000 in
set_option maxRecDepth 100000 in
theorem eyewitnesslaw05_NumTells.calls (k : Nat) (a0 : Int) (a1 : ByteArray) (a2 : Int) (r : Bool) (w : World) (hT : Tabs w) (h : eyewitnesslaw05_NumTells.f k a0 a1 a2 = some r) :
    Calls Tryd.prog 13 #[.int .i64 a0, .string a1, .int .i64 a2] w fun e w' => e = .returned (.bool r) ∧ Below w.heap.size w w' := by
  have HT := Aside0.mk hT
  clear hT
  have HB := Aside0.mk (Below.refl w.heap.size w)
  have H : (if (a1.size : Int) > 100 then ((eyewitnesslaw05_awake.f k).bind fun t119 => (some t119)) else ((num_Get.f a1).bind fun bt120 => ((eyewitnessref05_Get.f k a1).bind fun bt122 => ((eyewitnesslaw05_awake.f k).bind fun t124 => (if t124 = true then ((num_Put.f a0).bind fun t125 => ((eyewitnessref05_Put.f k a0).bind fun t126 => (if t125.toList = t126.toList then (if bt120.1 = bt122.1 then (if bt120.2 = bt122.2 then ((num_Span.f k a1 a2).bind fun t127 => ((eyewitnessref05_Span.f k a1 a2).bind fun t128 => (some (t127 == t128)))) else (some false)) else (some false)) else (some false)))) else (some false)))))) = some r := h
  clear h
  by_cases c4 : (a1.size : Int) > 100
  · rw [if_pos c4] at H
    have c4b0 : decide (100 < (a1.size : Int)) = true := decide_eq_true c4
    have c4b1 : decide (100 < a1.size) = true := decide_eq_true (by omega)
    clear c4
    replace H := Option.bind_eq_some_iff.mp H
    obtain ⟨t119, A50, H⟩ := H
    replace H : (some t119) = some r := H
    have A5 := Aside0.mk A50
    clear A50
    obtain rfl := Option.some.inj H
    go_enter Tryd.func13, Tryd.ntmps13
    go_wp2_with (first | ((with_reducible refine gate_callee (f := 45) rfl ?_); refine goesL_ (some 14) rfl rfl Tryd.func45 (by kernel_rfl) rfl #[] rfl (by (try simp only [List.map_toArray, List.map_cons, List.map_nil]); first | done | rfl | (simp only [List.length_drop, List.length_take]; rfl)) ?_; (with_reducible refine (eyewitnesslaw05_awake.calls k  t119 _ ?sideT A5.out).mono ?_); (case sideT => first | exact HT.out | exact Tabs.below HT.out (by repeat (first | (with_reducible first | exact HB.out | apply below_alloc | apply pw_below_drewN | apply below_drew1) | exact HB.out)) | (repeat (first | exact HT.out | apply Tabs.drewN | apply Tabs.drew | apply Tabs.alloc))); rintro e w6 ⟨rfl, hb⟩; refine ⟨_, rfl, ?_⟩; have n0_ := Aside0.mk (below_step (by repeat (first | (with_reducible first | exact HB.out | apply below_alloc | apply pw_below_drewN | apply below_drew1) | exact HB.out)) hb); clear HB; have HB := n0_; clear n0_; (try clear hb); (try clear hb2); (try clear hk); (try clear hi)))
    go_ret
    exact ⟨by first | rfl | (simp [errW_none, errW_some] <;> rfl) | (simp [*, errW_none, errW_some] <;> rfl), by repeat (first | (with_reducible first | exact HB.out | apply below_alloc | apply pw_below_drewN | apply below_drew1) | exact HB.out)⟩
  · rw [if_neg c4] at H
    have c4b0 : decide (100 < (a1.size : Int)) = false := decide_eq_false c4
    have c4b1 : decide (100 < a1.size) = false := decide_eq_false (by omega)
    clear c4
    replace H := Option.bind_eq_some_iff.mp H
    obtain ⟨⟨t120, t121⟩, A70, H⟩ := H
    replace H : ((eyewitnessref05_Get.f k a1).bind fun bt122 => ((eyewitnesslaw05_awake.f k).bind fun t124 => (if t124 = true then ((num_Put.f a0).bind fun t125 => ((eyewitnessref05_Put.f k a0).bind fun t126 => (if t125.toList = t126.toList then (if t120 = bt122.1 then (if t121 = bt122.2 then ((num_Span.f k a1 a2).bind fun t127 => ((eyewitnessref05_Span.f k a1 a2).bind fun t128 => (some (t127 == t128)))) else (some false)) else (some false)) else (some false)))) else (some false)))) = some r := H
    have A7 := Aside0.mk A70
    clear A70
    replace H := Option.bind_eq_some_iff.mp H
    obtain ⟨⟨t122, t123⟩, A80, H⟩ := H
    replace H : ((eyewitnesslaw05_awake.f k).bind fun t124 => (if t124 = true then ((num_Put.f a0).bind fun t125 => ((eyewitnessref05_Put.f k a0).bind fun t126 => (if t125.toList = t126.toList then (if t120 = t122 then (if t121 = t123 then ((num_Span.f k a1 a2).bind fun t127 => ((eyewitnessref05_Span.f k a1 a2).bind fun t128 => (some (t127 == t128)))) else (some false)) else (some false)) else (some false)))) else (some false))) = some r := H
    have A8 := Aside0.mk A80
    clear A80
    replace H := Option.bind_eq_some_iff.mp H
    obtain ⟨t124, A90, H⟩ := H
    replace H : (if t124 = true then ((num_Put.f a0).bind fun t125 => ((eyewitnessref05_Put.f k a0).bind fun t126 => (if t125.toList = t126.toList then (if t120 = t122 then (if t121 = t123 then ((num_Span.f k a1 a2).bind fun t127 => ((eyewitnessref05_Span.f k a1 a2).bind fun t128 => (some (t127 == t128)))) else (some false)) else (some false)) else (some false)))) else (some false)) = some r := H
    have A9 := Aside0.mk A90
    clear A90
    by_cases c10 : t124 = true
    · subst c10
      have H1 : ((num_Put.f a0).bind fun t125 => ((eyewitnessref05_Put.f k a0).bind fun t126 => (if t125.toList = t126.toList then (if t120 = t122 then (if t121 = t123 then ((num_Span.f k a1 a2).bind fun t127 => ((eyewitnessref05_Span.f k a1 a2).bind fun t128 => (some (t127 == t128)))) else (some false)) else (some false)) else (some false)))) = some r := by rw [if_pos rfl] at H; exact H
      clear H
      have H := H1
      clear H1
      replace H := Option.bind_eq_some_iff.mp H
      obtain ⟨t125, A110, H⟩ := H
      replace H : ((eyewitnessref05_Put.f k a0).bind fun t126 => (if t125.toList = t126.toList then (if t120 = t122 then (if t121 = t123 then ((num_Span.f k a1 a2).bind fun t127 => ((eyewitnessref05_Span.f k a1 a2).bind fun t128 => (some (t127 == t128)))) else (some false)) else (some false)) else (some false))) = some r := H
      have A11 := Aside0.mk A110
      clear A110
      replace H := Option.bind_eq_some_iff.mp H
      obtain ⟨t126, A120, H⟩ := H
      replace H : (if t125.toList = t126.toList then (if t120 = t122 then (if t121 = t123 then ((num_Span.f k a1 a2).bind fun t127 => ((eyewitnessref05_Span.f k a1 a2).bind fun t128 => (some (t127 == t128)))) else (some false)) else (some false)) else (some false)) = some r := H
      have A12 := Aside0.mk A120
      clear A120
      by_cases c13 : t125.toList = t126.toList
      · rw [if_pos c13] at H
        have c13b0 : (t125.toList == t126.toList) = true := beq_iff_eq.mpr c13
        have c13b1 : (t125.toList != t126.toList) = false := bne_eq_false_iff_eq.mpr c13
        clear c13
        by_cases c14 : t120 = t122
        · rw [if_pos c14] at H
          have c14b0 : (t120 == t122) = true := beq_iff_eq.mpr c14
          have c14b1 : (t120 != t122) = false := bne_eq_false_iff_eq.mpr c14
          clear c14
          by_cases c15 : t121 = t123
          · rw [if_pos c15] at H
            have c15b0 : (t121 == t123) = true := beq_iff_eq.mpr c15
            have c15b1 : (t121 != t123) = false := bne_eq_false_iff_eq.mpr c15
            clear c15
            replace H := Option.bind_eq_some_iff.mp H
            obtain ⟨t127, A160, H⟩ := H
            replace H : ((eyewitnessref05_Span.f k a1 a2).bind fun t128 => (some (t127 == t128))) = some r := H
            have A16 := Aside0.mk A160
            clear A160
            replace H := Option.bind_eq_some_iff.mp H
            obtain ⟨t128, A170, H⟩ := H
            replace H : (some (t127 == t128)) = some r := H
            have A17 := Aside0.mk A170
            clear A170
            obtain rfl := Option.some.inj H
            go_enter Tryd.func13, Tryd.ntmps13
            go_wp2_with (first | ((with_reducible refine gate_callee (f := 46) rfl ?_); refine goesL_ (some 17) rfl rfl Tryd.func46 (by kernel_rfl) rfl #[.string a1] rfl (by (try simp only [List.map_toArray, List.map_cons, List.map_nil]); first | done | rfl | (simp only [List.length_drop, List.length_take]; rfl)) ?_; (with_reducible refine (num_Get.calls a1 t120 t121 _ A7.out).mono ?_); rintro e w18 ⟨rfl, hb⟩; refine ⟨_, rfl, ?_⟩; have n0_ := Aside0.mk (below_step (by repeat (first | (with_reducible first | exact HB.out | apply below_alloc | apply pw_below_drewN | apply below_drew1) | exact HB.out)) hb); clear HB; have HB := n0_; clear n0_; (try clear hb); (try clear hb2); (try clear hk); (try clear hi)) | ((with_reducible refine gate_callee (f := 47) rfl ?_); refine goesL_ (some 22) rfl rfl Tryd.func47 (by kernel_rfl) rfl #[.string a1] rfl (by (try simp only [List.map_toArray, List.map_cons, List.map_nil]); first | done | rfl | (simp only [List.length_drop, List.length_take]; rfl)) ?_; (with_reducible refine (eyewitnessref05_Get.calls k a1 t122 t123 _ A8.out).mono ?_); rintro e w' ⟨rfl, ⟨nd, rfl⟩⟩; refine ⟨_, rfl, ?_⟩) | ((with_reducible refine gate_callee (f := 45) rfl ?_); refine goesL_ (some 25) rfl rfl Tryd.func45 (by kernel_rfl) rfl #[] rfl (by (try simp only [List.map_toArray, List.map_cons, List.map_nil]); first | done | rfl | (simp only [List.length_drop, List.length_take]; rfl)) ?_; (with_reducible refine (eyewitnesslaw05_awake.calls k  true _ ?sideT A9.out).mono ?_); (case sideT => first | exact HT.out | exact Tabs.below HT.out (by repeat (first | (with_reducible first | exact HB.out | apply below_alloc | apply pw_below_drewN | apply below_drew1) | exact HB.out)) | (repeat (first | exact HT.out | apply Tabs.drewN | apply Tabs.drew | apply Tabs.alloc))); rintro e w19 ⟨rfl, hb⟩; refine ⟨_, rfl, ?_⟩; have n0_ := Aside0.mk (below_step (by repeat (first | (with_reducible first | exact HB.out | apply below_alloc | apply pw_below_drewN | apply below_drew1) | exact HB.out)) hb); clear HB; have HB := n0_; clear n0_; (try clear hb); (try clear hb2); (try clear hk); (try clear hi)) | (go_at_call 48; (with_reducible refine (num_Put.calls a0 t125 _ ?sideT A11.out).mono ?_); (case sideT => first | exact HT.out | exact Tabs.below HT.out (by repeat (first | (with_reducible first | exact HB.out | apply below_alloc | apply pw_below_drewN | apply below_drew1) | exact HB.out)) | (repeat (first | exact HT.out | apply Tabs.drewN | apply Tabs.drew | apply Tabs.alloc))); rintro e w20 ⟨rfl, hb⟩; have n0_ := Aside0.mk (below_step (by repeat (first | (with_reducible first | exact HB.out | apply below_alloc | apply pw_below_drewN | apply below_drew1) | exact HB.out)) hb); clear HB; have HB := n0_; clear n0_; (try clear hb); (try clear hb2); (try clear hk); (try clear hi)) | (go_at_call 49; (with_reducible refine (eyewitnessref05_Put.calls k a0 t126 _ A12.out).mono ?_); rintro e w21 ⟨rfl, hb⟩; have n0_ := Aside0.mk (below_step (by repeat (first | (with_reducible first | exact HB.out | apply below_alloc | apply pw_below_drewN | apply below_drew1) | exact HB.out)) hb); clear HB; have HB := n0_; clear n0_; (try clear hb); (try clear hb2); (try clear hk); (try clear hi)) | (go_at_call 50; (with_reducible refine (num_Span.calls k a1 a2 t127 _ A16.out).mono ?_); rintro e w22 ⟨rfl, hb⟩; have n0_ := Aside0.mk (below_step (by repeat (first | (with_reducible first | exact HB.out | apply below_alloc | apply pw_below_drewN | apply below_drew1) | exact HB.out)) hb); clear HB; have HB := n0_; clear n0_; (try clear hb); (try clear hb2); (try clear hk); (try clear hi)) | (go_at_call 51; (with_reducible refine (eyewitnessref05_Span.calls k a1 a2 t128 _ A17.out).mono ?_); rintro e w' ⟨rfl, ⟨nd, rfl⟩⟩))
            go_ret
            exact ⟨by first | rfl | (simp [errW_none, errW_some] <;> rfl) | (simp [*, errW_none, errW_some] <;> rfl), by repeat (first | (with_reducible first | exact HB.out | apply below_alloc | apply pw_below_drewN | apply below_drew1) | exact HB.out)⟩
          · rw [if_neg c15] at H
            have c15b0 : (t121 == t123) = false := beq_eq_false_iff_ne.mpr c15
            have c15b1 : (t121 != t123) = true := bne_iff_ne.mpr c15
            obtain rfl := Option.some.inj H
            go_enter Tryd.func13, Tryd.ntmps13
            go_wp2_with (first | ((with_reducible refine gate_callee (f := 46) rfl ?_); refine goesL_ (some 17) rfl rfl Tryd.func46 (by kernel_rfl) rfl #[.string a1] rfl (by (try simp only [List.map_toArray, List.map_cons, List.map_nil]); first | done | rfl | (simp only [List.length_drop, List.length_take]; rfl)) ?_; (with_reducible refine (num_Get.calls a1 t120 t121 _ A7.out).mono ?_); rintro e w23 ⟨rfl, hb⟩; refine ⟨_, rfl, ?_⟩; have n0_ := Aside0.mk (below_step (by repeat (first | (with_reducible first | exact HB.out | apply below_alloc | apply pw_below_drewN | apply below_drew1) | exact HB.out)) hb); clear HB; have HB := n0_; clear n0_; (try clear hb); (try clear hb2); (try clear hk); (try clear hi)) | ((with_reducible refine gate_callee (f := 47) rfl ?_); refine goesL_ (some 22) rfl rfl Tryd.func47 (by kernel_rfl) rfl #[.string a1] rfl (by (try simp only [List.map_toArray, List.map_cons, List.map_nil]); first | done | rfl | (simp only [List.length_drop, List.length_take]; rfl)) ?_; (with_reducible refine (eyewitnessref05_Get.calls k a1 t122 t123 _ A8.out).mono ?_); rintro e w' ⟨rfl, ⟨nd, rfl⟩⟩; refine ⟨_, rfl, ?_⟩) | ((with_reducible refine gate_callee (f := 45) rfl ?_); refine goesL_ (some 25) rfl rfl Tryd.func45 (by kernel_rfl) rfl #[] rfl (by (try simp only [List.map_toArray, List.map_cons, List.map_nil]); first | done | rfl | (simp only [List.length_drop, List.length_take]; rfl)) ?_; (with_reducible refine (eyewitnesslaw05_awake.calls k  true _ ?sideT A9.out).mono ?_); (case sideT => first | exact HT.out | exact Tabs.below HT.out (by repeat (first | (with_reducible first | exact HB.out | apply below_alloc | apply pw_below_drewN | apply below_drew1) | exact HB.out)) | (repeat (first | exact HT.out | apply Tabs.drewN | apply Tabs.drew | apply Tabs.alloc))); rintro e w24 ⟨rfl, hb⟩; refine ⟨_, rfl, ?_⟩; have n0_ := Aside0.mk (below_step (by repeat (first | (with_reducible first | exact HB.out | apply below_alloc | apply pw_below_drewN | apply below_drew1) | exact HB.out)) hb); clear HB; have HB := n0_; clear n0_; (try clear hb); (try clear hb2); (try clear hk); (try clear hi)) | (go_at_call 48; (with_reducible refine (num_Put.calls a0 t125 _ ?sideT A11.out).mono ?_); (case sideT => first | exact HT.out | exact Tabs.below HT.out (by repeat (first | (with_reducible first | exact HB.out | apply below_alloc | apply pw_below_drewN | apply below_drew1) | exact HB.out)) | (repeat (first | exact HT.out | apply Tabs.drewN | apply Tabs.drew | apply Tabs.alloc))); rintro e w25 ⟨rfl, hb⟩; have n0_ := Aside0.mk (below_step (by repeat (first | (with_reducible first | exact HB.out | apply below_alloc | apply pw_below_drewN | apply below_drew1) | exact HB.out)) hb); clear HB; have HB := n0_; clear n0_; (try clear hb); (try clear hb2); (try clear hk); (try clear hi)) | (go_at_call 49; (with_reducible refine (eyewitnessref05_Put.calls k a0 t126 _ A12.out).mono ?_); rintro e w26 ⟨rfl, hb⟩; have n0_ := Aside0.mk (below_step (by repeat (first | (with_reducible first | exact HB.out | apply below_alloc | apply pw_below_drewN | apply below_drew1) | exact HB.out)) hb); clear HB; have HB := n0_; clear n0_; (try clear hb); (try clear hb2); (try clear hk); (try clear hi)))
            go_ret
            exact ⟨by first | rfl | (simp [errW_none, errW_some] <;> rfl) | (simp [*, errW_none, errW_some] <;> rfl), by repeat (first | (with_reducible first | exact HB.out | apply below_alloc | apply pw_below_drewN | apply below_drew1) | exact HB.out)⟩
        · rw [if_neg c14] at H
          have c14b0 : (t120 == t122) = false := beq_eq_false_iff_ne.mpr c14
          have c14b1 : (t120 != t122) = true := bne_iff_ne.mpr c14
          obtain rfl := Option.some.inj H
          go_enter Tryd.func13, Tryd.ntmps13
          go_wp2_with (first | ((with_reducible refine gate_callee (f := 46) rfl ?_); refine goesL_ (some 17) rfl rfl Tryd.func46 (by kernel_rfl) rfl #[.string a1] rfl (by (try simp only [List.map_toArray, List.map_cons, List.map_nil]); first | done | rfl | (simp only [List.length_drop, List.length_take]; rfl)) ?_; (with_reducible refine (num_Get.calls a1 t120 t121 _ A7.out).mono ?_); rintro e w27 ⟨rfl, hb⟩; refine ⟨_, rfl, ?_⟩; have n0_ := Aside0.mk (below_step (by repeat (first | (with_reducible first | exact HB.out | apply below_alloc | apply pw_below_drewN | apply below_drew1) | exact HB.out)) hb); clear HB; have HB := n0_; clear n0_; (try clear hb); (try clear hb2); (try clear hk); (try clear hi)) | ((with_reducible refine gate_callee (f := 47) rfl ?_); refine goesL_ (some 22) rfl rfl Tryd.func47 (by kernel_rfl) rfl #[.string a1] rfl (by (try simp only [List.map_toArray, List.map_cons, List.map_nil]); first | done | rfl | (simp only [List.length_drop, List.length_take]; rfl)) ?_; (with_reducible refine (eyewitnessref05_Get.calls k a1 t122 t123 _ A8.out).mono ?_); rintro e w' ⟨rfl, ⟨nd, rfl⟩⟩; refine ⟨_, rfl, ?_⟩) | ((with_reducible refine gate_callee (f := 45) rfl ?_); refine goesL_ (some 25) rfl rfl Tryd.func45 (by kernel_rfl) rfl #[] rfl (by (try simp only [List.map_toArray, List.map_cons, List.map_nil]); first | done | rfl | (simp only [List.length_drop, List.length_take]; rfl)) ?_; (with_reducible refine (eyewitnesslaw05_awake.calls k  true _ ?sideT A9.out).mono ?_); (case sideT => first | exact HT.out | exact Tabs.below HT.out (by repeat (first | (with_reducible first | exact HB.out | apply below_alloc | apply pw_below_drewN | apply below_drew1) | exact HB.out)) | (repeat (first | exact HT.out | apply Tabs.drewN | apply Tabs.drew | apply Tabs.alloc))); rintro e w28 ⟨rfl, hb⟩; refine ⟨_, rfl, ?_⟩; have n0_ := Aside0.mk (below_step (by repeat (first | (with_reducible first | exact HB.out | apply below_alloc | apply pw_below_drewN | apply below_drew1) | exact HB.out)) hb); clear HB; have HB := n0_; clear n0_; (try clear hb); (try clear hb2); (try clear hk); (try clear hi)) | (go_at_call 48; (with_reducible refine (num_Put.calls a0 t125 _ ?sideT A11.out).mono ?_); (case sideT => first | exact HT.out | exact Tabs.below HT.out (by repeat (first | (with_reducible first | exact HB.out | apply below_alloc | apply pw_below_drewN | apply below_drew1) | exact HB.out)) | (repeat (first | exact HT.out | apply Tabs.drewN | apply Tabs.drew | apply Tabs.alloc))); rintro e w29 ⟨rfl, hb⟩; have n0_ := Aside0.mk (below_step (by repeat (first | (with_reducible first | exact HB.out | apply below_alloc | apply pw_below_drewN | apply below_drew1) | exact HB.out)) hb); clear HB; have HB := n0_; clear n0_; (try clear hb); (try clear hb2); (try clear hk); (try clear hi)) | (go_at_call 49; (with_reducible refine (eyewitnessref05_Put.calls k a0 t126 _ A12.out).mono ?_); rintro e w30 ⟨rfl, hb⟩; have n0_ := Aside0.mk (below_step (by repeat (first | (with_reducible first | exact HB.out | apply below_alloc | apply pw_below_drewN | apply below_drew1) | exact HB.out)) hb); clear HB; have HB := n0_; clear n0_; (try clear hb); (try clear hb2); (try clear hk); (try clear hi)))
          go_ret
          exact ⟨by first | rfl | (simp [errW_none, errW_some] <;> rfl) | (simp [*, errW_none, errW_some] <;> rfl), by repeat (first | (with_reducible first | exact HB.out | apply below_alloc | apply pw_below_drewN | apply below_drew1) | exact HB.out)⟩
      · rw [if_neg c13] at H
        have c13b0 : (t125.toList == t126.toList) = false := beq_eq_false_iff_ne.mpr c13
        have c13b1 : (t125.toList != t126.toList) = true := bne_iff_ne.mpr c13
        obtain rfl := Option.some.inj H
        go_enter Tryd.func13, Tryd.ntmps13
        go_wp2_with (first | ((with_reducible refine gate_callee (f := 46) rfl ?_); refine goesL_ (some 17) rfl rfl Tryd.func46 (by kernel_rfl) rfl #[.string a1] rfl (by (try simp only [List.map_toArray, List.map_cons, List.map_nil]); first | done | rfl | (simp only [List.length_drop, List.length_take]; rfl)) ?_; (with_reducible refine (num_Get.calls a1 t120 t121 _ A7.out).mono ?_); rintro e w31 ⟨rfl, hb⟩; refine ⟨_, rfl, ?_⟩; have n0_ := Aside0.mk (below_step (by repeat (first | (with_reducible first | exact HB.out | apply below_alloc | apply pw_below_drewN | apply below_drew1) | exact HB.out)) hb); clear HB; have HB := n0_; clear n0_; (try clear hb); (try clear hb2); (try clear hk); (try clear hi)) | ((with_reducible refine gate_callee (f := 47) rfl ?_); refine goesL_ (some 22) rfl rfl Tryd.func47 (by kernel_rfl) rfl #[.string a1] rfl (by (try simp only [List.map_toArray, List.map_cons, List.map_nil]); first | done | rfl | (simp only [List.length_drop, List.length_take]; rfl)) ?_; (with_reducible refine (eyewitnessref05_Get.calls k a1 t122 t123 _ A8.out).mono ?_); rintro e w' ⟨rfl, ⟨nd, rfl⟩⟩; refine ⟨_, rfl, ?_⟩) | ((with_reducible refine gate_callee (f := 45) rfl ?_); refine goesL_ (some 25) rfl rfl Tryd.func45 (by kernel_rfl) rfl #[] rfl (by (try simp only [List.map_toArray, List.map_cons, List.map_nil]); first | done | rfl | (simp only [List.length_drop, List.length_take]; rfl)) ?_; (with_reducible refine (eyewitnesslaw05_awake.calls k  true _ ?sideT A9.out).mono ?_); (case sideT => first | exact HT.out | exact Tabs.below HT.out (by repeat (first | (with_reducible first | exact HB.out | apply below_alloc | apply pw_below_drewN | apply below_drew1) | exact HB.out)) | (repeat (first | exact HT.out | apply Tabs.drewN | apply Tabs.drew | apply Tabs.alloc))); rintro e w32 ⟨rfl, hb⟩; refine ⟨_, rfl, ?_⟩; have n0_ := Aside0.mk (below_step (by repeat (first | (with_reducible first | exact HB.out | apply below_alloc | apply pw_below_drewN | apply below_drew1) | exact HB.out)) hb); clear HB; have HB := n0_; clear n0_; (try clear hb); (try clear hb2); (try clear hk); (try clear hi)) | (go_at_call 48; (with_reducible refine (num_Put.calls a0 t125 _ ?sideT A11.out).mono ?_); (case sideT => first | exact HT.out | exact Tabs.below HT.out (by repeat (first | (with_reducible first | exact HB.out | apply below_alloc | apply pw_below_drewN | apply below_drew1) | exact HB.out)) | (repeat (first | exact HT.out | apply Tabs.drewN | apply Tabs.drew | apply Tabs.alloc))); rintro e w33 ⟨rfl, hb⟩; have n0_ := Aside0.mk (below_step (by repeat (first | (with_reducible first | exact HB.out | apply below_alloc | apply pw_below_drewN | apply below_drew1) | exact HB.out)) hb); clear HB; have HB := n0_; clear n0_; (try clear hb); (try clear hb2); (try clear hk); (try clear hi)) | (go_at_call 49; (with_reducible refine (eyewitnessref05_Put.calls k a0 t126 _ A12.out).mono ?_); rintro e w34 ⟨rfl, hb⟩; have n0_ := Aside0.mk (below_step (by repeat (first | (with_reducible first | exact HB.out | apply below_alloc | apply pw_below_drewN | apply below_drew1) | exact HB.out)) hb); clear HB; have HB := n0_; clear n0_; (try clear hb); (try clear hb2); (try clear hk); (try clear hi)))
        go_ret
        exact ⟨by first | rfl | (simp [errW_none, errW_some] <;> rfl) | (simp [*, errW_none, errW_some] <;> rfl), by repeat (first | (with_reducible first | exact HB.out | apply below_alloc | apply pw_below_drewN | apply below_drew1) | exact HB.out)⟩
    · replace c10 := Bool.eq_false_iff.mpr c10
      subst c10
      have H1 : (some false) = some r := by rw [if_neg (show ¬ (false = true) by decide)] at H; exact H
      clear H
      have H := H1
      clear H1
      obtain rfl := Option.some.inj H
      go_enter Tryd.func13, Tryd.ntmps13
      go_wp2_with (first | ((with_reducible refine gate_callee (f := 46) rfl ?_); refine goesL_ (some 17) rfl rfl Tryd.func46 (by kernel_rfl) rfl #[.string a1] rfl (by (try simp only [List.map_toArray, List.map_cons, List.map_nil]); first | done | rfl | (simp only [List.length_drop, List.length_take]; rfl)) ?_; (with_reducible refine (num_Get.calls a1 t120 t121 _ A7.out).mono ?_); rintro e w35 ⟨rfl, hb⟩; refine ⟨_, rfl, ?_⟩; have n0_ := Aside0.mk (below_step (by repeat (first | (with_reducible first | exact HB.out | apply below_alloc | apply pw_below_drewN | apply below_drew1) | exact HB.out)) hb); clear HB; have HB := n0_; clear n0_; (try clear hb); (try clear hb2); (try clear hk); (try clear hi)) | ((with_reducible refine gate_callee (f := 47) rfl ?_); refine goesL_ (some 22) rfl rfl Tryd.func47 (by kernel_rfl) rfl #[.string a1] rfl (by (try simp only [List.map_toArray, List.map_cons, List.map_nil]); first | done | rfl | (simp only [List.length_drop, List.length_take]; rfl)) ?_; (with_reducible refine (eyewitnessref05_Get.calls k a1 t122 t123 _ A8.out).mono ?_); rintro e w' ⟨rfl, ⟨nd, rfl⟩⟩; refine ⟨_, rfl, ?_⟩) | ((with_reducible refine gate_callee (f := 45) rfl ?_); refine goesL_ (some 25) rfl rfl Tryd.func45 (by kernel_rfl) rfl #[] rfl (by (try simp only [List.map_toArray, List.map_cons, List.map_nil]); first | done | rfl | (simp only [List.length_drop, List.length_take]; rfl)) ?_; (with_reducible refine (eyewitnesslaw05_awake.calls k  false _ ?sideT A9.out).mono ?_); (case sideT => first | exact HT.out | exact Tabs.below HT.out (by repeat (first | (with_reducible first | exact HB.out | apply below_alloc | apply pw_below_drewN | apply below_drew1) | exact HB.out)) | (repeat (first | exact HT.out | apply Tabs.drewN | apply Tabs.drew | apply Tabs.alloc))); rintro e w36 ⟨rfl, hb⟩; refine ⟨_, rfl, ?_⟩; have n0_ := Aside0.mk (below_step (by repeat (first | (with_reducible first | exact HB.out | apply below_alloc | apply pw_below_drewN | apply below_drew1) | exact HB.out)) hb); clear HB; have HB := n0_; clear n0_; (try clear hb); (try clear hb2); (try clear hk); (try clear hi)))
      go_ret
      exact ⟨by first | rfl | (simp [errW_none, errW_some] <;> rfl) | (simp [*, errW_none, errW_some] <;> rfl), by repeat (first | (with_reducible first | exact HB.out | apply below_alloc | apply pw_below_drewN | apply below_drew1) | exact HB.out)⟩

/-- THE ONE PURE STATEMENT of eyewitnesslaw05_NumTells: yours. -/
def eyewitnesslaw05_NumTells.Pure : Prop := ∀ (a0 : Int) (a1 : ByteArray) (a2 : Int), (Lit.int .i64 a0).wf = true → a1.size ≤ 140737488351232 → (Lit.int .i64 a2).wf = true → ∃ k, eyewitnesslaw05_NumTells.f k a0 a1 a2 = some true
theorem eyewitnesslaw05_NumTells.walk (P : eyewitnesslaw05_NumTells.Pure) (a0 : Int) (a1 : ByteArray) (a2 : Int) (w : World) (hT : Tabs w) (w0 : (Lit.int .i64 a0).wf = true) (w1 : a1.size ≤ 140737488351232) (w2 : (Lit.int .i64 a2).wf = true) :
    Calls Tryd.prog 13 #[.int .i64 a0, .string a1, .int .i64 a2] w fun e w' => e = .returned (.bool true) ∧ Below w.heap.size w w' := by
  obtain ⟨k, h⟩ := P a0 a1 a2 w0 w1 w2
  refine (eyewitnesslaw05_NumTells.calls k a0 a1 a2 true w hT h).mono ?_
  rintro e w' ⟨rfl, hd⟩
  exact ⟨rfl, hd⟩

/-! ### eyewitnesslaw05_NumBack: function 14 -/
def eyewitnesslaw05_NumBack.f (k : Nat) (a0 : Int) (a1 : ByteArray) : Option (Bool) := if (a1.size : Int) > 100 then ((eyewitnesslaw05_awake.f k).bind fun t129 => (some t129)) else ((num_Put.f a0).bind fun t130 => ((num_Get.f t130).bind fun bt131 => ((num_Get.f a1).bind fun bt133 => ((eyewitnesslaw05_awake.f k).bind fun t135 => (if t135 = true then (if bt131.2 = 0 then (if bt131.1 = a0 then ((num_Span.f k t130 0).bind fun t136 => (if t136 = (t130.size : Int) then (if bt133.2 = 0 then ((num_Put.f bt133.1).bind fun t137 => (some (t137.toList == a1.toList))) else (if bt133.1 = 0 then (some true) else (some false))) else (some false))) else (some false)) else (some false)) else (some false))))))
theorem eyewitnesslaw05_NumBack.mono : ∀ a0 a1 k, LeO (eyewitnesslaw05_NumBack.f k a0 a1) (eyewitnesslaw05_NumBack.f (k + 1) a0 a1) := by
  intro a0 a1 k
  unfold eyewitnesslaw05_NumBack.f
  repeat' first
      | (with_reducible exact eyewitnesslaw05_awake.mono _)
      | (with_reducible exact num_Span.mono _ _ _)
      | (with_reducible exact LeO.refl _)
      | (with_reducible exact LeO.none _)
      | (with_reducible refine LeO.ite ?_ ?_)
      | (with_reducible refine LeO.bind ?_ (fun _ => ?_))
      | exact eyewitnesslaw05_awake.mono _
      | exact num_Span.mono _ _ _
      | exact LeO.none _
      | refine LeO.ite ?_ ?_
      | refine LeO.bind ?_ (fun _ => ?_)
set_option maxHeartbeats 8000000 in
set_option maxRecDepth 100000 in
theorem eyewitnesslaw05_NumBack.calls (k : Nat) (a0 : Int) (a1 : ByteArray) (r : Bool) (w : World) (hT : Tabs w) (h : eyewitnesslaw05_NumBack.f k a0 a1 = some r) :
    Calls Tryd.prog 14 #[.int .i64 a0, .string a1] w fun e w' => e = .returned (.bool r) ∧ Below w.heap.size w w' := by
  have HT := Aside0.mk hT
  clear hT
  have HB := Aside0.mk (Below.refl w.heap.size w)
  have H : (if (a1.size : Int) > 100 then ((eyewitnesslaw05_awake.f k).bind fun t129 => (some t129)) else ((num_Put.f a0).bind fun t130 => ((num_Get.f t130).bind fun bt131 => ((num_Get.f a1).bind fun bt133 => ((eyewitnesslaw05_awake.f k).bind fun t135 => (if t135 = true then (if bt131.2 = 0 then (if bt131.1 = a0 then ((num_Span.f k t130 0).bind fun t136 => (if t136 = (t130.size : Int) then (if bt133.2 = 0 then ((num_Put.f bt133.1).bind fun t137 => (some (t137.toList == a1.toList))) else (if bt133.1 = 0 then (some true) else (some false))) else (some false))) else (some false)) else (some false)) else (some false))))))) = some r := h
  clear h
  by_cases c3 : (a1.size : Int) > 100
  · rw [if_pos c3] at H
    have c3b0 : decide (100 < (a1.size : Int)) = true := decide_eq_true c3
    have c3b1 : decide (100 < a1.size) = true := decide_eq_true (by omega)
    clear c3
    replace H := Option.bind_eq_some_iff.mp H
    obtain ⟨t129, A40, H⟩ := H
    replace H : (some t129) = some r := H
    have A4 := Aside0.mk A40
    clear A40
    obtain rfl := Option.some.inj H
    go_enter Tryd.func14, Tryd.ntmps14
    go_wp2_with (first | ((with_reducible refine gate_callee (f := 45) rfl ?_); refine goesL_ (some 13) rfl rfl Tryd.func45 (by kernel_rfl) rfl #[] rfl (by (try simp only [List.map_toArray, List.map_cons, List.map_nil]); first | done | rfl | (simp only [List.length_drop, List.length_take]; rfl)) ?_; (with_reducible refine (eyewitnesslaw05_awake.calls k  t129 _ ?sideT A4.out).mono ?_); (case sideT => first | exact HT.out | exact Tabs.below HT.out (by repeat (first | (with_reducible first | exact HB.out | apply below_alloc | apply pw_below_drewN | apply below_drew1) | exact HB.out)) | (repeat (first | exact HT.out | apply Tabs.drewN | apply Tabs.drew | apply Tabs.alloc))); rintro e w5 ⟨rfl, hb⟩; refine ⟨_, rfl, ?_⟩; have n0_ := Aside0.mk (below_step (by repeat (first | (with_reducible first | exact HB.out | apply below_alloc | apply pw_below_drewN | apply below_drew1) | exact HB.out)) hb); clear HB; have HB := n0_; clear n0_; (try clear hb); (try clear hb2); (try clear hk); (try clear hi)))
    go_ret
    exact ⟨by first | rfl | (simp [errW_none, errW_some] <;> rfl) | (simp [*, errW_none, errW_some] <;> rfl), by repeat (first | (with_reducible first | exact HB.out | apply below_alloc | apply pw_below_drewN | apply below_drew1) | exact HB.out)⟩
  · rw [if_neg c3] at H
    have c3b0 : decide (100 < (a1.size : Int)) = false := decide_eq_false c3
    have c3b1 : decide (100 < a1.size) = false := decide_eq_false (by omega)
    clear c3
    replace H := Option.bind_eq_some_iff.mp H
    obtain ⟨t130, A60, H⟩ := H
    replace H : ((num_Get.f t130).bind fun bt131 => ((num_Get.f a1).bind fun bt133 => ((eyewitnesslaw05_awake.f k).bind fun t135 => (if t135 = true then (if bt131.2 = 0 then (if bt131.1 = a0 then ((num_Span.f k t130 0).bind fun t136 => (if t136 = (t130.size : Int) then (if bt133.2 = 0 then ((num_Put.f bt133.1).bind fun t137 => (some (t137.toList == a1.toList))) else (if bt133.1 = 0 then (some true) else (some false))) else (some false))) else (some false)) else (some false)) else (some false))))) = some r := H
    have A6 := Aside0.mk A60
    clear A60
    replace H := Option.bind_eq_some_iff.mp H
    obtain ⟨⟨t131, t132⟩, A70, H⟩ := H
    replace H : ((num_Get.f a1).bind fun bt133 => ((eyewitnesslaw05_awake.f k).bind fun t135 => (if t135 = true then (if t132 = 0 then (if t131 = a0 then ((num_Span.f k t130 0).bind fun t136 => (if t136 = (t130.size : Int) then (if bt133.2 = 0 then ((num_Put.f bt133.1).bind fun t137 => (some (t137.toList == a1.toList))) else (if bt133.1 = 0 then (some true) else (some false))) else (some false))) else (some false)) else (some false)) else (some false)))) = some r := H
    have A7 := Aside0.mk A70
    clear A70
    replace H := Option.bind_eq_some_iff.mp H
    obtain ⟨⟨t133, t134⟩, A80, H⟩ := H
    replace H : ((eyewitnesslaw05_awake.f k).bind fun t135 => (if t135 = true then (if t132 = 0 then (if t131 = a0 then ((num_Span.f k t130 0).bind fun t136 => (if t136 = (t130.size : Int) then (if t134 = 0 then ((num_Put.f t133).bind fun t137 => (some (t137.toList == a1.toList))) else (if t133 = 0 then (some true) else (some false))) else (some false))) else (some false)) else (some false)) else (some false))) = some r := H
    have A8 := Aside0.mk A80
    clear A80
    replace H := Option.bind_eq_some_iff.mp H
    obtain ⟨t135, A90, H⟩ := H
    replace H : (if t135 = true then (if t132 = 0 then (if t131 = a0 then ((num_Span.f k t130 0).bind fun t136 => (if t136 = (t130.size : Int) then (if t134 = 0 then ((num_Put.f t133).bind fun t137 => (some (t137.toList == a1.toList))) else (if t133 = 0 then (some true) else (some false))) else (some false))) else (some false)) else (some false)) else (some false)) = some r := H
    have A9 := Aside0.mk A90
    clear A90
    by_cases c10 : t135 = true
    · subst c10
      have H1 : (if t132 = 0 then (if t131 = a0 then ((num_Span.f k t130 0).bind fun t136 => (if t136 = (t130.size : Int) then (if t134 = 0 then ((num_Put.f t133).bind fun t137 => (some (t137.toList == a1.toList))) else (if t133 = 0 then (some true) else (some false))) else (some false))) else (some false)) else (some false)) = some r := by rw [if_pos rfl] at H; exact H
      clear H
      have H := H1
      clear H1
      by_cases c11 : t132 = 0
      · rw [if_pos c11] at H
        have c11b0 : (t132 == 0) = true := beq_iff_eq.mpr c11
        have c11b1 : (t132 != 0) = false := bne_eq_false_iff_eq.mpr c11
        clear c11
        by_cases c12 : t131 = a0
        · rw [if_pos c12] at H
          have c12b0 : (t131 == a0) = true := beq_iff_eq.mpr c12
          have c12b1 : (t131 != a0) = false := bne_eq_false_iff_eq.mpr c12
          clear c12
          replace H := Option.bind_eq_some_iff.mp H
          obtain ⟨t136, A130, H⟩ := H
          replace H : (if t136 = (t130.size : Int) then (if t134 = 0 then ((num_Put.f t133).bind fun t137 => (some (t137.toList == a1.toList))) else (if t133 = 0 then (some true) else (some false))) else (some false)) = some r := H
          have A13 := Aside0.mk A130
          clear A130
          by_cases c14 : t136 = (t130.size : Int)
          · rw [if_pos c14] at H
            have c14b0 : (t136 == (t130.size : Int)) = true := beq_iff_eq.mpr c14
            have c14b1 : (t136 != (t130.size : Int)) = false := bne_eq_false_iff_eq.mpr c14
            clear c14
            by_cases c15 : t134 = 0
            · rw [if_pos c15] at H
              have c15b0 : (t134 == 0) = true := beq_iff_eq.mpr c15
              have c15b1 : (t134 != 0) = false := bne_eq_false_iff_eq.mpr c15
              clear c15
              replace H := Option.bind_eq_some_iff.mp H
              obtain ⟨t137, A160, H⟩ := H
              replace H : (some (t137.toList == a1.toList)) = some r := H
              have A16 := Aside0.mk A160
              clear A160
              obtain rfl := Option.some.inj H
              go_enter Tryd.func14, Tryd.ntmps14
              go_wp2_with (first | ((with_reducible refine gate_callee (f := 48) rfl ?_); refine goesL_ (some 15) rfl rfl Tryd.func48 (by kernel_rfl) rfl #[.int .i64 a0] rfl (by (try simp only [List.map_toArray, List.map_cons, List.map_nil]); first | done | rfl | (simp only [List.length_drop, List.length_take]; rfl)) ?_; (with_reducible refine (num_Put.calls a0 t130 _ ?sideT A6.out).mono ?_); (case sideT => first | exact HT.out | exact Tabs.below HT.out (by repeat (first | (with_reducible first | exact HB.out | apply below_alloc | apply pw_below_drewN | apply below_drew1) | exact HB.out)) | (repeat (first | exact HT.out | apply Tabs.drewN | apply Tabs.drew | apply Tabs.alloc))); rintro e w17 ⟨rfl, hb⟩; refine ⟨_, rfl, ?_⟩; have n0_ := Aside0.mk (below_step (by repeat (first | (with_reducible first | exact HB.out | apply below_alloc | apply pw_below_drewN | apply below_drew1) | exact HB.out)) hb); clear HB; have HB := n0_; clear n0_; (try clear hb); (try clear hb2); (try clear hk); (try clear hi)) | ((with_reducible refine gate_callee (f := 46) rfl ?_); refine goesL_ (some 18) rfl rfl Tryd.func46 (by kernel_rfl) rfl #[.string t130] rfl (by (try simp only [List.map_toArray, List.map_cons, List.map_nil]); first | done | rfl | (simp only [List.length_drop, List.length_take]; rfl)) ?_; (with_reducible refine (num_Get.calls t130 t131 t132 _ A7.out).mono ?_); rintro e w18 ⟨rfl, hb⟩; refine ⟨_, rfl, ?_⟩; have n0_ := Aside0.mk (below_step (by repeat (first | (with_reducible first | exact HB.out | apply below_alloc | apply pw_below_drewN | apply below_drew1) | exact HB.out)) hb); clear HB; have HB := n0_; clear n0_; (try clear hb); (try clear hb2); (try clear hk); (try clear hi)) | ((with_reducible refine gate_callee (f := 46) rfl ?_); refine goesL_ (some 23) rfl rfl Tryd.func46 (by kernel_rfl) rfl #[.string a1] rfl (by (try simp only [List.map_toArray, List.map_cons, List.map_nil]); first | done | rfl | (simp only [List.length_drop, List.length_take]; rfl)) ?_; (with_reducible refine (num_Get.calls a1 t133 t134 _ A8.out).mono ?_); rintro e w19 ⟨rfl, hb⟩; refine ⟨_, rfl, ?_⟩; have n0_ := Aside0.mk (below_step (by repeat (first | (with_reducible first | exact HB.out | apply below_alloc | apply pw_below_drewN | apply below_drew1) | exact HB.out)) hb); clear HB; have HB := n0_; clear n0_; (try clear hb); (try clear hb2); (try clear hk); (try clear hi)) | ((with_reducible refine gate_callee (f := 45) rfl ?_); refine goesL_ (some 26) rfl rfl Tryd.func45 (by kernel_rfl) rfl #[] rfl (by (try simp only [List.map_toArray, List.map_cons, List.map_nil]); first | done | rfl | (simp only [List.length_drop, List.length_take]; rfl)) ?_; (with_reducible refine (eyewitnesslaw05_awake.calls k  true _ ?sideT A9.out).mono ?_); (case sideT => first | exact HT.out | exact Tabs.below HT.out (by repeat (first | (with_reducible first | exact HB.out | apply below_alloc | apply pw_below_drewN | apply below_drew1) | exact HB.out)) | (repeat (first | exact HT.out | apply Tabs.drewN | apply Tabs.drew | apply Tabs.alloc))); rintro e w20 ⟨rfl, hb⟩; refine ⟨_, rfl, ?_⟩; have n0_ := Aside0.mk (below_step (by repeat (first | (with_reducible first | exact HB.out | apply below_alloc | apply pw_below_drewN | apply below_drew1) | exact HB.out)) hb); clear HB; have HB := n0_; clear n0_; (try clear hb); (try clear hb2); (try clear hk); (try clear hi)) | (go_at_call 50; (with_reducible refine (num_Span.calls k t130 0 t136 _ A13.out).mono ?_); rintro e w21 ⟨rfl, hb⟩; have n0_ := Aside0.mk (below_step (by repeat (first | (with_reducible first | exact HB.out | apply below_alloc | apply pw_below_drewN | apply below_drew1) | exact HB.out)) hb); clear HB; have HB := n0_; clear n0_; (try clear hb); (try clear hb2); (try clear hk); (try clear hi)) | (go_at_call 48; (with_reducible refine (num_Put.calls t133 t137 _ ?sideT A16.out).mono ?_); (case sideT => first | exact HT.out | exact Tabs.below HT.out (by repeat (first | (with_reducible first | exact HB.out | apply below_alloc | apply pw_below_drewN | apply below_drew1) | exact HB.out)) | (repeat (first | exact HT.out | apply Tabs.drewN | apply Tabs.drew | apply Tabs.alloc))); rintro e w22 ⟨rfl, hb⟩; have n0_ := Aside0.mk (below_step (by repeat (first | (with_reducible first | exact HB.out | apply below_alloc | apply pw_below_drewN | apply below_drew1) | exact HB.out)) hb); clear HB; have HB := n0_; clear n0_; (try clear hb); (try clear hb2); (try clear hk); (try clear hi)))
              go_ret
              exact ⟨by first | rfl | (simp [errW_none, errW_some] <;> rfl) | (simp [*, errW_none, errW_some] <;> rfl), by repeat (first | (with_reducible first | exact HB.out | apply below_alloc | apply pw_below_drewN | apply below_drew1) | exact HB.out)⟩
            · rw [if_neg c15] at H
              have c15b0 : (t134 == 0) = false := beq_eq_false_iff_ne.mpr c15
              have c15b1 : (t134 != 0) = true := bne_iff_ne.mpr c15
              by_cases c23 : t133 = 0
              · rw [if_pos c23] at H
                have c23b0 : (t133 == 0) = true := beq_iff_eq.mpr c23
                have c23b1 : (t133 != 0) = false := bne_eq_false_iff_eq.mpr c23
                clear c23
                obtain rfl := Option.some.inj H
                go_enter Tryd.func14, Tryd.ntmps14
                go_wp2_with (first | ((with_reducible refine gate_callee (f := 48) rfl ?_); refine goesL_ (some 15) rfl rfl Tryd.func48 (by kernel_rfl) rfl #[.int .i64 a0] rfl (by (try simp only [List.map_toArray, List.map_cons, List.map_nil]); first | done | rfl | (simp only [List.length_drop, List.length_take]; rfl)) ?_; (with_reducible refine (num_Put.calls a0 t130 _ ?sideT A6.out).mono ?_); (case sideT => first | exact HT.out | exact Tabs.below HT.out (by repeat (first | (with_reducible first | exact HB.out | apply below_alloc | apply pw_below_drewN | apply below_drew1) | exact HB.out)) | (repeat (first | exact HT.out | apply Tabs.drewN | apply Tabs.drew | apply Tabs.alloc))); rintro e w24 ⟨rfl, hb⟩; refine ⟨_, rfl, ?_⟩; have n0_ := Aside0.mk (below_step (by repeat (first | (with_reducible first | exact HB.out | apply below_alloc | apply pw_below_drewN | apply below_drew1) | exact HB.out)) hb); clear HB; have HB := n0_; clear n0_; (try clear hb); (try clear hb2); (try clear hk); (try clear hi)) | ((with_reducible refine gate_callee (f := 46) rfl ?_); refine goesL_ (some 18) rfl rfl Tryd.func46 (by kernel_rfl) rfl #[.string t130] rfl (by (try simp only [List.map_toArray, List.map_cons, List.map_nil]); first | done | rfl | (simp only [List.length_drop, List.length_take]; rfl)) ?_; (with_reducible refine (num_Get.calls t130 t131 t132 _ A7.out).mono ?_); rintro e w25 ⟨rfl, hb⟩; refine ⟨_, rfl, ?_⟩; have n0_ := Aside0.mk (below_step (by repeat (first | (with_reducible first | exact HB.out | apply below_alloc | apply pw_below_drewN | apply below_drew1) | exact HB.out)) hb); clear HB; have HB := n0_; clear n0_; (try clear hb); (try clear hb2); (try clear hk); (try clear hi)) | ((with_reducible refine gate_callee (f := 46) rfl ?_); refine goesL_ (some 23) rfl rfl Tryd.func46 (by kernel_rfl) rfl #[.string a1] rfl (by (try simp only [List.map_toArray, List.map_cons, List.map_nil]); first | done | rfl | (simp only [List.length_drop, List.length_take]; rfl)) ?_; (with_reducible refine (num_Get.calls a1 t133 t134 _ A8.out).mono ?_); rintro e w26 ⟨rfl, hb⟩; refine ⟨_, rfl, ?_⟩; have n0_ := Aside0.mk (below_step (by repeat (first | (with_reducible first | exact HB.out | apply below_alloc | apply pw_below_drewN | apply below_drew1) | exact HB.out)) hb); clear HB; have HB := n0_; clear n0_; (try clear hb); (try clear hb2); (try clear hk); (try clear hi)) | ((with_reducible refine gate_callee (f := 45) rfl ?_); refine goesL_ (some 26) rfl rfl Tryd.func45 (by kernel_rfl) rfl #[] rfl (by (try simp only [List.map_toArray, List.map_cons, List.map_nil]); first | done | rfl | (simp only [List.length_drop, List.length_take]; rfl)) ?_; (with_reducible refine (eyewitnesslaw05_awake.calls k  true _ ?sideT A9.out).mono ?_); (case sideT => first | exact HT.out | exact Tabs.below HT.out (by repeat (first | (with_reducible first | exact HB.out | apply below_alloc | apply pw_below_drewN | apply below_drew1) | exact HB.out)) | (repeat (first | exact HT.out | apply Tabs.drewN | apply Tabs.drew | apply Tabs.alloc))); rintro e w27 ⟨rfl, hb⟩; refine ⟨_, rfl, ?_⟩; have n0_ := Aside0.mk (below_step (by repeat (first | (with_reducible first | exact HB.out | apply below_alloc | apply pw_below_drewN | apply below_drew1) | exact HB.out)) hb); clear HB; have HB := n0_; clear n0_; (try clear hb); (try clear hb2); (try clear hk); (try clear hi)) | (go_at_call 50; (with_reducible refine (num_Span.calls k t130 0 t136 _ A13.out).mono ?_); rintro e w28 ⟨rfl, hb⟩; have n0_ := Aside0.mk (below_step (by repeat (first | (with_reducible first | exact HB.out | apply below_alloc | apply pw_below_drewN | apply below_drew1) | exact HB.out)) hb); clear HB; have HB := n0_; clear n0_; (try clear hb); (try clear hb2); (try clear hk); (try clear hi)))
                go_ret
                exact ⟨by first | rfl | (simp [errW_none, errW_some] <;> rfl) | (simp [*, errW_none, errW_some] <;> rfl), by repeat (first | (with_reducible first | exact HB.out | apply below_alloc | apply pw_below_drewN | apply below_drew1) | exact HB.out)⟩
              · rw [if_neg c23] at H
                have c23b0 : (t133 == 0) = false := beq_eq_false_iff_ne.mpr c23
                have c23b1 : (t133 != 0) = true := bne_iff_ne.mpr c23
                obtain rfl := Option.some.inj H
                go_enter Tryd.func14, Tryd.ntmps14
                go_wp2_with (first | ((with_reducible refine gate_callee (f := 48) rfl ?_); refine goesL_ (some 15) rfl rfl Tryd.func48 (by kernel_rfl) rfl #[.int .i64 a0] rfl (by (try simp only [List.map_toArray, List.map_cons, List.map_nil]); first | done | rfl | (simp only [List.length_drop, List.length_take]; rfl)) ?_; (with_reducible refine (num_Put.calls a0 t130 _ ?sideT A6.out).mono ?_); (case sideT => first | exact HT.out | exact Tabs.below HT.out (by repeat (first | (with_reducible first | exact HB.out | apply below_alloc | apply pw_below_drewN | apply below_drew1) | exact HB.out)) | (repeat (first | exact HT.out | apply Tabs.drewN | apply Tabs.drew | apply Tabs.alloc))); rintro e w29 ⟨rfl, hb⟩; refine ⟨_, rfl, ?_⟩; have n0_ := Aside0.mk (below_step (by repeat (first | (with_reducible first | exact HB.out | apply below_alloc | apply pw_below_drewN | apply below_drew1) | exact HB.out)) hb); clear HB; have HB := n0_; clear n0_; (try clear hb); (try clear hb2); (try clear hk); (try clear hi)) | ((with_reducible refine gate_callee (f := 46) rfl ?_); refine goesL_ (some 18) rfl rfl Tryd.func46 (by kernel_rfl) rfl #[.string t130] rfl (by (try simp only [List.map_toArray, List.map_cons, List.map_nil]); first | done | rfl | (simp only [List.length_drop, List.length_take]; rfl)) ?_; (with_reducible refine (num_Get.calls t130 t131 t132 _ A7.out).mono ?_); rintro e w30 ⟨rfl, hb⟩; refine ⟨_, rfl, ?_⟩; have n0_ := Aside0.mk (below_step (by repeat (first | (with_reducible first | exact HB.out | apply below_alloc | apply pw_below_drewN | apply below_drew1) | exact HB.out)) hb); clear HB; have HB := n0_; clear n0_; (try clear hb); (try clear hb2); (try clear hk); (try clear hi)) | ((with_reducible refine gate_callee (f := 46) rfl ?_); refine goesL_ (some 23) rfl rfl Tryd.func46 (by kernel_rfl) rfl #[.string a1] rfl (by (try simp only [List.map_toArray, List.map_cons, List.map_nil]); first | done | rfl | (simp only [List.length_drop, List.length_take]; rfl)) ?_; (with_reducible refine (num_Get.calls a1 t133 t134 _ A8.out).mono ?_); rintro e w31 ⟨rfl, hb⟩; refine ⟨_, rfl, ?_⟩; have n0_ := Aside0.mk (below_step (by repeat (first | (with_reducible first | exact HB.out | apply below_alloc | apply pw_below_drewN | apply below_drew1) | exact HB.out)) hb); clear HB; have HB := n0_; clear n0_; (try clear hb); (try clear hb2); (try clear hk); (try clear hi)) | ((with_reducible refine gate_callee (f := 45) rfl ?_); refine goesL_ (some 26) rfl rfl Tryd.func45 (by kernel_rfl) rfl #[] rfl (by (try simp only [List.map_toArray, List.map_cons, List.map_nil]); first | done | rfl | (simp only [List.length_drop, List.length_take]; rfl)) ?_; (with_reducible refine (eyewitnesslaw05_awake.calls k  true _ ?sideT A9.out).mono ?_); (case sideT => first | exact HT.out | exact Tabs.below HT.out (by repeat (first | (with_reducible first | exact HB.out | apply below_alloc | apply pw_below_drewN | apply below_drew1) | exact HB.out)) | (repeat (first | exact HT.out | apply Tabs.drewN | apply Tabs.drew | apply Tabs.alloc))); rintro e w32 ⟨rfl, hb⟩; refine ⟨_, rfl, ?_⟩; have n0_ := Aside0.mk (below_step (by repeat (first | (with_reducible first | exact HB.out | apply below_alloc | apply pw_below_drewN | apply below_drew1) | exact HB.out)) hb); clear HB; have HB := n0_; clear n0_; (try clear hb); (try clear hb2); (try clear hk); (try clear hi)) | (go_at_call 50; (with_reducible refine (num_Span.calls k t130 0 t136 _ A13.out).mono ?_); rintro e w33 ⟨rfl, hb⟩; have n0_ := Aside0.mk (below_step (by repeat (first | (with_reducible first | exact HB.out | apply below_alloc | apply pw_below_drewN | apply below_drew1) | exact HB.out)) hb); clear HB; have HB := n0_; clear n0_; (try clear hb); (try clear hb2); (try clear hk); (try clear hi)))
                go_ret
                exact ⟨by first | rfl | (simp [errW_none, errW_some] <;> rfl) | (simp [*, errW_none, errW_some] <;> rfl), by repeat (first | (with_reducible first | exact HB.out | apply below_alloc | apply pw_below_drewN | apply below_drew1) | exact HB.out)⟩
          · rw [if_neg c14] at H
            have c14b0 : (t136 == (t130.size : Int)) = false := beq_eq_false_iff_ne.mpr c14
            have c14b1 : (t136 != (t130.size : Int)) = true := bne_iff_ne.mpr c14
            obtain rfl := Option.some.inj H
            go_enter Tryd.func14, Tryd.ntmps14
            go_wp2_with (first | ((with_reducible refine gate_callee (f := 48) rfl ?_); refine goesL_ (some 15) rfl rfl Tryd.func48 (by kernel_rfl) rfl #[.int .i64 a0] rfl (by (try simp only [List.map_toArray, List.map_cons, List.map_nil]); first | done | rfl | (simp only [List.length_drop, List.length_take]; rfl)) ?_; (with_reducible refine (num_Put.calls a0 t130 _ ?sideT A6.out).mono ?_); (case sideT => first | exact HT.out | exact Tabs.below HT.out (by repeat (first | (with_reducible first | exact HB.out | apply below_alloc | apply pw_below_drewN | apply below_drew1) | exact HB.out)) | (repeat (first | exact HT.out | apply Tabs.drewN | apply Tabs.drew | apply Tabs.alloc))); rintro e w34 ⟨rfl, hb⟩; refine ⟨_, rfl, ?_⟩; have n0_ := Aside0.mk (below_step (by repeat (first | (with_reducible first | exact HB.out | apply below_alloc | apply pw_below_drewN | apply below_drew1) | exact HB.out)) hb); clear HB; have HB := n0_; clear n0_; (try clear hb); (try clear hb2); (try clear hk); (try clear hi)) | ((with_reducible refine gate_callee (f := 46) rfl ?_); refine goesL_ (some 18) rfl rfl Tryd.func46 (by kernel_rfl) rfl #[.string t130] rfl (by (try simp only [List.map_toArray, List.map_cons, List.map_nil]); first | done | rfl | (simp only [List.length_drop, List.length_take]; rfl)) ?_; (with_reducible refine (num_Get.calls t130 t131 t132 _ A7.out).mono ?_); rintro e w35 ⟨rfl, hb⟩; refine ⟨_, rfl, ?_⟩; have n0_ := Aside0.mk (below_step (by repeat (first | (with_reducible first | exact HB.out | apply below_alloc | apply pw_below_drewN | apply below_drew1) | exact HB.out)) hb); clear HB; have HB := n0_; clear n0_; (try clear hb); (try clear hb2); (try clear hk); (try clear hi)) | ((with_reducible refine gate_callee (f := 46) rfl ?_); refine goesL_ (some 23) rfl rfl Tryd.func46 (by kernel_rfl) rfl #[.string a1] rfl (by (try simp only [List.map_toArray, List.map_cons, List.map_nil]); first | done | rfl | (simp only [List.length_drop, List.length_take]; rfl)) ?_; (with_reducible refine (num_Get.calls a1 t133 t134 _ A8.out).mono ?_); rintro e w36 ⟨rfl, hb⟩; refine ⟨_, rfl, ?_⟩; have n0_ := Aside0.mk (below_step (by repeat (first | (with_reducible first | exact HB.out | apply below_alloc | apply pw_below_drewN | apply below_drew1) | exact HB.out)) hb); clear HB; have HB := n0_; clear n0_; (try clear hb); (try clear hb2); (try clear hk); (try clear hi)) | ((with_reducible refine gate_callee (f := 45) rfl ?_); refine goesL_ (some 26) rfl rfl Tryd.func45 (by kernel_rfl) rfl #[] rfl (by (try simp only [List.map_toArray, List.map_cons, List.map_nil]); first | done | rfl | (simp only [List.length_drop, List.length_take]; rfl)) ?_; (with_reducible refine (eyewitnesslaw05_awake.calls k  true _ ?sideT A9.out).mono ?_); (case sideT => first | exact HT.out | exact Tabs.below HT.out (by repeat (first | (with_reducible first | exact HB.out | apply below_alloc | apply pw_below_drewN | apply below_drew1) | exact HB.out)) | (repeat (first | exact HT.out | apply Tabs.drewN | apply Tabs.drew | apply Tabs.alloc))); rintro e w37 ⟨rfl, hb⟩; refine ⟨_, rfl, ?_⟩; have n0_ := Aside0.mk (below_step (by repeat (first | (with_reducible first | exact HB.out | apply below_alloc | apply pw_below_drewN | apply below_drew1) | exact HB.out)) hb); clear HB; have HB := n0_; clear n0_; (try clear hb); (try clear hb2); (try clear hk); (try clear hi)) | (go_at_call 50; (with_reducible refine (num_Span.calls k t130 0 t136 _ A13.out).mono ?_); rintro e w38 ⟨rfl, hb⟩; have n0_ := Aside0.mk (below_step (by repeat (first | (with_reducible first | exact HB.out | apply below_alloc | apply pw_below_drewN | apply below_drew1) | exact HB.out)) hb); clear HB; have HB := n0_; clear n0_; (try clear hb); (try clear hb2); (try clear hk); (try clear hi)))
            go_ret
            exact ⟨by first | rfl | (simp [errW_none, errW_some] <;> rfl) | (simp [*, errW_none, errW_some] <;> rfl), by repeat (first | (with_reducible first | exact HB.out | apply below_alloc | apply pw_below_drewN | apply below_drew1) | exact HB.out)⟩
        · rw [if_neg c12] at H
          have c12b0 : (t131 == a0) = false := beq_eq_false_iff_ne.mpr c12
          have c12b1 : (t131 != a0) = true := bne_iff_ne.mpr c12
          obtain rfl := Option.some.inj H
          go_enter Tryd.func14, Tryd.ntmps14
          go_wp2_with (first | ((with_reducible refine gate_callee (f := 48) rfl ?_); refine goesL_ (some 15) rfl rfl Tryd.func48 (by kernel_rfl) rfl #[.int .i64 a0] rfl (by (try simp only [List.map_toArray, List.map_cons, List.map_nil]); first | done | rfl | (simp only [List.length_drop, List.length_take]; rfl)) ?_; (with_reducible refine (num_Put.calls a0 t130 _ ?sideT A6.out).mono ?_); (case sideT => first | exact HT.out | exact Tabs.below HT.out (by repeat (first | (with_reducible first | exact HB.out | apply below_alloc | apply pw_below_drewN | apply below_drew1) | exact HB.out)) | (repeat (first | exact HT.out | apply Tabs.drewN | apply Tabs.drew | apply Tabs.alloc))); rintro e w39 ⟨rfl, hb⟩; refine ⟨_, rfl, ?_⟩; have n0_ := Aside0.mk (below_step (by repeat (first | (with_reducible first | exact HB.out | apply below_alloc | apply pw_below_drewN | apply below_drew1) | exact HB.out)) hb); clear HB; have HB := n0_; clear n0_; (try clear hb); (try clear hb2); (try clear hk); (try clear hi)) | ((with_reducible refine gate_callee (f := 46) rfl ?_); refine goesL_ (some 18) rfl rfl Tryd.func46 (by kernel_rfl) rfl #[.string t130] rfl (by (try simp only [List.map_toArray, List.map_cons, List.map_nil]); first | done | rfl | (simp only [List.length_drop, List.length_take]; rfl)) ?_; (with_reducible refine (num_Get.calls t130 t131 t132 _ A7.out).mono ?_); rintro e w40 ⟨rfl, hb⟩; refine ⟨_, rfl, ?_⟩; have n0_ := Aside0.mk (below_step (by repeat (first | (with_reducible first | exact HB.out | apply below_alloc | apply pw_below_drewN | apply below_drew1) | exact HB.out)) hb); clear HB; have HB := n0_; clear n0_; (try clear hb); (try clear hb2); (try clear hk); (try clear hi)) | ((with_reducible refine gate_callee (f := 46) rfl ?_); refine goesL_ (some 23) rfl rfl Tryd.func46 (by kernel_rfl) rfl #[.string a1] rfl (by (try simp only [List.map_toArray, List.map_cons, List.map_nil]); first | done | rfl | (simp only [List.length_drop, List.length_take]; rfl)) ?_; (with_reducible refine (num_Get.calls a1 t133 t134 _ A8.out).mono ?_); rintro e w41 ⟨rfl, hb⟩; refine ⟨_, rfl, ?_⟩; have n0_ := Aside0.mk (below_step (by repeat (first | (with_reducible first | exact HB.out | apply below_alloc | apply pw_below_drewN | apply below_drew1) | exact HB.out)) hb); clear HB; have HB := n0_; clear n0_; (try clear hb); (try clear hb2); (try clear hk); (try clear hi)) | ((with_reducible refine gate_callee (f := 45) rfl ?_); refine goesL_ (some 26) rfl rfl Tryd.func45 (by kernel_rfl) rfl #[] rfl (by (try simp only [List.map_toArray, List.map_cons, List.map_nil]); first | done | rfl | (simp only [List.length_drop, List.length_take]; rfl)) ?_; (with_reducible refine (eyewitnesslaw05_awake.calls k  true _ ?sideT A9.out).mono ?_); (case sideT => first | exact HT.out | exact Tabs.below HT.out (by repeat (first | (with_reducible first | exact HB.out | apply below_alloc | apply pw_below_drewN | apply below_drew1) | exact HB.out)) | (repeat (first | exact HT.out | apply Tabs.drewN | apply Tabs.drew | apply Tabs.alloc))); rintro e w42 ⟨rfl, hb⟩; refine ⟨_, rfl, ?_⟩; have n0_ := Aside0.mk (below_step (by repeat (first | (with_reducible first | exact HB.out | apply below_alloc | apply pw_below_drewN | apply below_drew1) | exact HB.out)) hb); clear HB; have HB := n0_; clear n0_; (try clear hb); (try clear hb2); (try clear hk); (try clear hi)))
          go_ret
          exact ⟨by first | rfl | (simp [errW_none, errW_some] <;> rfl) | (simp [*, errW_none, errW_some] <;> rfl), by repeat (first | (with_reducible first | exact HB.out | apply below_alloc | apply pw_below_drewN | apply below_drew1) | exact HB.out)⟩
      · rw [if_neg c11] at H
        have c11b0 : (t132 == 0) = false := beq_eq_false_iff_ne.mpr c11
        have c11b1 : (t132 != 0) = true := bne_iff_ne.mpr c11
        obtain rfl := Option.some.inj H
        go_enter Tryd.func14, Tryd.ntmps14
        go_wp2_with (first | ((with_reducible refine gate_callee (f := 48) rfl ?_); refine goesL_ (some 15) rfl rfl Tryd.func48 (by kernel_rfl) rfl #[.int .i64 a0] rfl (by (try simp only [List.map_toArray, List.map_cons, List.map_nil]); first | done | rfl | (simp only [List.length_drop, List.length_take]; rfl)) ?_; (with_reducible refine (num_Put.calls a0 t130 _ ?sideT A6.out).mono ?_); (case sideT => first | exact HT.out | exact Tabs.below HT.out (by repeat (first | (with_reducible first | exact HB.out | apply below_alloc | apply pw_below_drewN | apply below_drew1) | exact HB.out)) | (repeat (first | exact HT.out | apply Tabs.drewN | apply Tabs.drew | apply Tabs.alloc))); rintro e w43 ⟨rfl, hb⟩; refine ⟨_, rfl, ?_⟩; have n0_ := Aside0.mk (below_step (by repeat (first | (with_reducible first | exact HB.out | apply below_alloc | apply pw_below_drewN | apply below_drew1) | exact HB.out)) hb); clear HB; have HB := n0_; clear n0_; (try clear hb); (try clear hb2); (try clear hk); (try clear hi)) | ((with_reducible refine gate_callee (f := 46) rfl ?_); refine goesL_ (some 18) rfl rfl Tryd.func46 (by kernel_rfl) rfl #[.string t130] rfl (by (try simp only [List.map_toArray, List.map_cons, List.map_nil]); first | done | rfl | (simp only [List.length_drop, List.length_take]; rfl)) ?_; (with_reducible refine (num_Get.calls t130 t131 t132 _ A7.out).mono ?_); rintro e w44 ⟨rfl, hb⟩; refine ⟨_, rfl, ?_⟩; have n0_ := Aside0.mk (below_step (by repeat (first | (with_reducible first | exact HB.out | apply below_alloc | apply pw_below_drewN | apply below_drew1) | exact HB.out)) hb); clear HB; have HB := n0_; clear n0_; (try clear hb); (try clear hb2); (try clear hk); (try clear hi)) | ((with_reducible refine gate_callee (f := 46) rfl ?_); refine goesL_ (some 23) rfl rfl Tryd.func46 (by kernel_rfl) rfl #[.string a1] rfl (by (try simp only [List.map_toArray, List.map_cons, List.map_nil]); first | done | rfl | (simp only [List.length_drop, List.length_take]; rfl)) ?_; (with_reducible refine (num_Get.calls a1 t133 t134 _ A8.out).mono ?_); rintro e w45 ⟨rfl, hb⟩; refine ⟨_, rfl, ?_⟩; have n0_ := Aside0.mk (below_step (by repeat (first | (with_reducible first | exact HB.out | apply below_alloc | apply pw_below_drewN | apply below_drew1) | exact HB.out)) hb); clear HB; have HB := n0_; clear n0_; (try clear hb); (try clear hb2); (try clear hk); (try clear hi)) | ((with_reducible refine gate_callee (f := 45) rfl ?_); refine goesL_ (some 26) rfl rfl Tryd.func45 (by kernel_rfl) rfl #[] rfl (by (try simp only [List.map_toArray, List.map_cons, List.map_nil]); first | done | rfl | (simp only [List.length_drop, List.length_take]; rfl)) ?_; (with_reducible refine (eyewitnesslaw05_awake.calls k  true _ ?sideT A9.out).mono ?_); (case sideT => first | exact HT.out | exact Tabs.below HT.out (by repeat (first | (with_reducible first | exact HB.out | apply below_alloc | apply pw_below_drewN | apply below_drew1) | exact HB.out)) | (repeat (first | exact HT.out | apply Tabs.drewN | apply Tabs.drew | apply Tabs.alloc))); rintro e w46 ⟨rfl, hb⟩; refine ⟨_, rfl, ?_⟩; have n0_ := Aside0.mk (below_step (by repeat (first | (with_reducible first | exact HB.out | apply below_alloc | apply pw_below_drewN | apply below_drew1) | exact HB.out)) hb); clear HB; have HB := n0_; clear n0_; (try clear hb); (try clear hb2); (try clear hk); (try clear hi)))
        go_ret
        exact ⟨by first | rfl | (simp [errW_none, errW_some] <;> rfl) | (simp [*, errW_none, errW_some] <;> rfl), by repeat (first | (with_reducible first | exact HB.out | apply below_alloc | apply pw_below_drewN | apply below_drew1) | exact HB.out)⟩
    · replace c10 := Bool.eq_false_iff.mpr c10
      subst c10
      have H1 : (some false) = some r := by rw [if_neg (show ¬ (false = true) by decide)] at H; exact H
      clear H
      have H := H1
      clear H1
      obtain rfl := Option.some.inj H
      go_enter Tryd.func14, Tryd.ntmps14
      go_wp2_with (first | ((with_reducible refine gate_callee (f := 48) rfl ?_); refine goesL_ (some 15) rfl rfl Tryd.func48 (by kernel_rfl) rfl #[.int .i64 a0] rfl (by (try simp only [List.map_toArray, List.map_cons, List.map_nil]); first | done | rfl | (simp only [List.length_drop, List.length_take]; rfl)) ?_; (with_reducible refine (num_Put.calls a0 t130 _ ?sideT A6.out).mono ?_); (case sideT => first | exact HT.out | exact Tabs.below HT.out (by repeat (first | (with_reducible first | exact HB.out | apply below_alloc | apply pw_below_drewN | apply below_drew1) | exact HB.out)) | (repeat (first | exact HT.out | apply Tabs.drewN | apply Tabs.drew | apply Tabs.alloc))); rintro e w47 ⟨rfl, hb⟩; refine ⟨_, rfl, ?_⟩; have n0_ := Aside0.mk (below_step (by repeat (first | (with_reducible first | exact HB.out | apply below_alloc | apply pw_below_drewN | apply below_drew1) | exact HB.out)) hb); clear HB; have HB := n0_; clear n0_; (try clear hb); (try clear hb2); (try clear hk); (try clear hi)) | ((with_reducible refine gate_callee (f := 46) rfl ?_); refine goesL_ (some 18) rfl rfl Tryd.func46 (by kernel_rfl) rfl #[.string t130] rfl (by (try simp only [List.map_toArray, List.map_cons, List.map_nil]); first | done | rfl | (simp only [List.length_drop, List.length_take]; rfl)) ?_; (with_reducible refine (num_Get.calls t130 t131 t132 _ A7.out).mono ?_); rintro e w48 ⟨rfl, hb⟩; refine ⟨_, rfl, ?_⟩; have n0_ := Aside0.mk (below_step (by repeat (first | (with_reducible first | exact HB.out | apply below_alloc | apply pw_below_drewN | apply below_drew1) | exact HB.out)) hb); clear HB; have HB := n0_; clear n0_; (try clear hb); (try clear hb2); (try clear hk); (try clear hi)) | ((with_reducible refine gate_callee (f := 46) rfl ?_); refine goesL_ (some 23) rfl rfl Tryd.func46 (by kernel_rfl) rfl #[.string a1] rfl (by (try simp only [List.map_toArray, List.map_cons, List.map_nil]); first | done | rfl | (simp only [List.length_drop, List.length_take]; rfl)) ?_; (with_reducible refine (num_Get.calls a1 t133 t134 _ A8.out).mono ?_); rintro e w49 ⟨rfl, hb⟩; refine ⟨_, rfl, ?_⟩; have n0_ := Aside0.mk (below_step (by repeat (first | (with_reducible first | exact HB.out | apply below_alloc | apply pw_below_drewN | apply below_drew1) | exact HB.out)) hb); clear HB; have HB := n0_; clear n0_; (try clear hb); (try clear hb2); (try clear hk); (try clear hi)) | ((with_reducible refine gate_callee (f := 45) rfl ?_); refine goesL_ (some 26) rfl rfl Tryd.func45 (by kernel_rfl) rfl #[] rfl (by (try simp only [List.map_toArray, List.map_cons, List.map_nil]); first | done | rfl | (simp only [List.length_drop, List.length_take]; rfl)) ?_; (with_reducible refine (eyewitnesslaw05_awake.calls k  false _ ?sideT A9.out).mono ?_); (case sideT => first | exact HT.out | exact Tabs.below HT.out (by repeat (first | (with_reducible first | exact HB.out | apply below_alloc | apply pw_below_drewN | apply below_drew1) | exact HB.out)) | (repeat (first | exact HT.out | apply Tabs.drewN | apply Tabs.drew | apply Tabs.alloc))); rintro e w50 ⟨rfl, hb⟩; refine ⟨_, rfl, ?_⟩; have n0_ := Aside0.mk (below_step (by repeat (first | (with_reducible first | exact HB.out | apply below_alloc | apply pw_below_drewN | apply below_drew1) | exact HB.out)) hb); clear HB; have HB := n0_; clear n0_; (try clear hb); (try clear hb2); (try clear hk); (try clear hi)))
      go_ret
      exact ⟨by first | rfl | (simp [errW_none, errW_some] <;> rfl) | (simp [*, errW_none, errW_some] <;> rfl), by repeat (first | (with_reducible first | exact HB.out | apply below_alloc | apply pw_below_drewN | apply below_drew1) | exact HB.out)⟩

/-- THE ONE PURE STATEMENT of eyewitnesslaw05_NumBack: yours. -/
def eyewitnesslaw05_NumBack.Pure : Prop := ∀ (a0 : Int) (a1 : ByteArray), (Lit.int .i64 a0).wf = true → a1.size ≤ 140737488351232 → ∃ k, eyewitnesslaw05_NumBack.f k a0 a1 = some true
theorem eyewitnesslaw05_NumBack.walk (P : eyewitnesslaw05_NumBack.Pure) (a0 : Int) (a1 : ByteArray) (w : World) (hT : Tabs w) (w0 : (Lit.int .i64 a0).wf = true) (w1 : a1.size ≤ 140737488351232) :
    Calls Tryd.prog 14 #[.int .i64 a0, .string a1] w fun e w' => e = .returned (.bool true) ∧ Below w.heap.size w w' := by
  obtain ⟨k, h⟩ := P a0 a1 w0 w1
  refine (eyewitnesslaw05_NumBack.calls k a0 a1 true w hT h).mono ?_
  rintro e w' ⟨rfl, hd⟩
  exact ⟨rfl, hd⟩

/-! ### eyewitnesslaw05_NumSpans: function 15 -/
def eyewitnesslaw05_NumSpans.l0 : Nat → ByteArray → ByteArray → Int → Int → Option (Bool)
  | 0, _, _, _, _ => none
  | k + 1, x1, x5, x6, x7 => if x7 ≤ (x1.size : Int) then ((num_Span.f k x1 x7).bind fun t141 => (if t141 < 0 then (some false) else (if (wrap64 (x7 + t141)) > (x1.size : Int) then (some false) else (if t141 > 0 then (if x7 < (x1.size : Int) then (if 0 ≤ x7 then (if (bt x1 x7) = 45 then (eyewitnesslaw05_NumSpans.l0 k x1 x5 x6 (wrap64 (x7 + 1))) else (if (bt x1 x7) < 48 then (some false) else (if (bt x1 x7) > 57 then (some false) else (eyewitnesslaw05_NumSpans.l0 k x1 x5 x6 (wrap64 (x7 + 1)))))) else (none)) else (eyewitnesslaw05_NumSpans.l0 k x1 x5 x6 (wrap64 (x7 + 1)))) else (eyewitnesslaw05_NumSpans.l0 k x1 x5 x6 (wrap64 (x7 + 1))))))) else ((eyewitnesslaw05_awake.f k).bind fun t142 => (if t142 = true then (some (x6 == (x5.size : Int))) else (some false)))
def eyewitnesslaw05_NumSpans.f (k : Nat) (a0 : Int) (a1 : ByteArray) : Option (Bool) := if (a1.size : Int) > 100 then ((eyewitnesslaw05_awake.f k).bind fun t138 => (some t138)) else ((num_Put.f a0).bind fun t139 => (if a1.size + t139.size ≤ 9223372036854775807 then (if (a1 ++ t139).size + 1 ≤ 9223372036854775807 then ((num_Span.f k ((a1 ++ t139) ++ (⟨#[59]⟩ : ByteArray)) (a1.size : Int)).bind fun t140 => (eyewitnesslaw05_NumSpans.l0 k a1 t139 t140 0)) else (none)) else (none)))
theorem eyewitnesslaw05_NumSpans.mono_l : ∀ k, (∀ y0 y1 y2 y3, LeO (eyewitnesslaw05_NumSpans.l0 k y0 y1 y2 y3) (eyewitnesslaw05_NumSpans.l0 (k + 1) y0 y1 y2 y3))
  | 0 => fun _ _ _ _ r h => by simp [eyewitnesslaw05_NumSpans.l0] at h
  | k + 1 => by
    have ih0 := eyewitnesslaw05_NumSpans.mono_l k
    · intro y0 y1 y2 y3
      unfold eyewitnesslaw05_NumSpans.l0
      repeat' first
      | (with_reducible exact ih0 _ _ _ _)
      | (with_reducible exact eyewitnesslaw05_awake.mono _)
      | (with_reducible exact num_Span.mono _ _ _)
      | (with_reducible exact LeO.refl _)
      | (with_reducible exact LeO.none _)
      | (with_reducible refine LeO.ite ?_ ?_)
      | (with_reducible refine LeO.bind ?_ (fun _ => ?_))
      | exact ih0 _ _ _ _
      | exact eyewitnesslaw05_awake.mono _
      | exact num_Span.mono _ _ _
      | exact LeO.none _
      | refine LeO.ite ?_ ?_
      | refine LeO.bind ?_ (fun _ => ?_)
theorem eyewitnesslaw05_NumSpans.mono : ∀ a0 a1 k, LeO (eyewitnesslaw05_NumSpans.f k a0 a1) (eyewitnesslaw05_NumSpans.f (k + 1) a0 a1) := by
  intro a0 a1 k
  have ih0 := eyewitnesslaw05_NumSpans.mono_l k
  unfold eyewitnesslaw05_NumSpans.f
  repeat' first
      | (with_reducible exact ih0 _ _ _ _)
      | (with_reducible exact eyewitnesslaw05_awake.mono _)
      | (with_reducible exact num_Span.mono _ _ _)
      | (with_reducible exact LeO.refl _)
      | (with_reducible exact LeO.none _)
      | (with_reducible refine LeO.ite ?_ ?_)
      | (with_reducible refine LeO.bind ?_ (fun _ => ?_))
      | exact ih0 _ _ _ _
      | exact eyewitnesslaw05_awake.mono _
      | exact num_Span.mono _ _ _
      | exact LeO.none _
      | refine LeO.ite ?_ ?_
      | refine LeO.bind ?_ (fun _ => ?_)
set_option maxHeartbeats 8000000 in
set_option maxRecDepth 100000 in
theorem eyewitnesslaw05_NumSpans.calls (k : Nat) (a0 : Int) (a1 : ByteArray) (r : Bool) (w : World) (hT : Tabs w) (h : eyewitnesslaw05_NumSpans.f k a0 a1 = some r) :
    Calls Tryd.prog 15 #[.int .i64 a0, .string a1] w fun e w' => e = .returned (.bool r) ∧ Below w.heap.size w w' := by
  have HT := Aside0.mk hT
  clear hT
  have HB := Aside0.mk (Below.refl w.heap.size w)
  have H : (if (a1.size : Int) > 100 then ((eyewitnesslaw05_awake.f k).bind fun t138 => (some t138)) else ((num_Put.f a0).bind fun t139 => (if a1.size + t139.size ≤ 9223372036854775807 then (if (a1 ++ t139).size + 1 ≤ 9223372036854775807 then ((num_Span.f k ((a1 ++ t139) ++ (⟨#[59]⟩ : ByteArray)) (a1.size : Int)).bind fun t140 => (eyewitnesslaw05_NumSpans.l0 k a1 t139 t140 0)) else (none)) else (none)))) = some r := h
  clear h
  by_cases c3 : (a1.size : Int) > 100
  · rw [if_pos c3] at H
    have c3b0 : decide (100 < (a1.size : Int)) = true := decide_eq_true c3
    have c3b1 : decide (100 < a1.size) = true := decide_eq_true (by omega)
    clear c3
    replace H := Option.bind_eq_some_iff.mp H
    obtain ⟨t138, A40, H⟩ := H
    replace H : (some t138) = some r := H
    have A4 := Aside0.mk A40
    clear A40
    obtain rfl := Option.some.inj H
    go_enter Tryd.func15, Tryd.ntmps15
    go_wp2_with (first | ((with_reducible refine gate_callee (f := 45) rfl ?_); refine goesL_ (some 12) rfl rfl Tryd.func45 (by kernel_rfl) rfl #[] rfl (by (try simp only [List.map_toArray, List.map_cons, List.map_nil]); first | done | rfl | (simp only [List.length_drop, List.length_take]; rfl)) ?_; (with_reducible refine (eyewitnesslaw05_awake.calls k  t138 _ ?sideT A4.out).mono ?_); (case sideT => first | exact HT.out | exact Tabs.below HT.out (by repeat (first | (with_reducible first | exact HB.out | apply below_alloc | apply pw_below_drewN | apply below_drew1) | exact HB.out)) | (repeat (first | exact HT.out | apply Tabs.drewN | apply Tabs.drew | apply Tabs.alloc))); rintro e w5 ⟨rfl, hb⟩; refine ⟨_, rfl, ?_⟩; have n0_ := Aside0.mk (below_step (by repeat (first | (with_reducible first | exact HB.out | apply below_alloc | apply pw_below_drewN | apply below_drew1) | exact HB.out)) hb); clear HB; have HB := n0_; clear n0_; (try clear hb); (try clear hb2); (try clear hk); (try clear hi)))
    go_ret
    exact ⟨by first | rfl | (simp [errW_none, errW_some] <;> rfl) | (simp [*, errW_none, errW_some] <;> rfl), by repeat (first | (with_reducible first | exact HB.out | apply below_alloc | apply pw_below_drewN | apply below_drew1) | exact HB.out)⟩
  · rw [if_neg c3] at H
    have c3b0 : decide (100 < (a1.size : Int)) = false := decide_eq_false c3
    have c3b1 : decide (100 < a1.size) = false := decide_eq_false (by omega)
    clear c3
    replace H := Option.bind_eq_some_iff.mp H
    obtain ⟨t139, A60, H⟩ := H
    replace H : (if a1.size + t139.size ≤ 9223372036854775807 then (if (a1 ++ t139).size + 1 ≤ 9223372036854775807 then ((num_Span.f k ((a1 ++ t139) ++ (⟨#[59]⟩ : ByteArray)) (a1.size : Int)).bind fun t140 => (eyewitnesslaw05_NumSpans.l0 k a1 t139 t140 0)) else (none)) else (none)) = some r := H
    have A6 := Aside0.mk A60
    clear A60
    by_cases c7 : a1.size + t139.size ≤ 9223372036854775807
    · rw [if_pos c7] at H
      have c7b0 := eq_true c7
      have c7b1 : decide (a1.size + t139.size ≤ 9223372036854775807) = true := decide_eq_true c7
      try have c7b2 : (9223372036854775807 < a1.size + t139.size) = False := eq_false (Nat.not_lt.2 c7)
      by_cases c8 : (a1 ++ t139).size + 1 ≤ 9223372036854775807
      · rw [if_pos c8] at H
        have c8b0 := eq_true c8
        have c8b1 : decide ((a1 ++ t139).size + 1 ≤ 9223372036854775807) = true := decide_eq_true c8
        try have c8b2 : (9223372036854775807 < (a1 ++ t139).size + 1) = False := eq_false (Nat.not_lt.2 c8)
        try (have c8b3 := c8b2; simp only [ByteArray.size_append] at c8b3)
        replace H := Option.bind_eq_some_iff.mp H
        obtain ⟨t140, A90, H⟩ := H
        replace H : (eyewitnesslaw05_NumSpans.l0 k a1 t139 t140 0) = some r := H
        have A9 := Aside0.mk A90
        clear A90
        have H' := Aside0.mk H
        clear H
        go_enter Tryd.func15, Tryd.ntmps15
        go_wp2_with (first | ((with_reducible refine gate_callee (f := 48) rfl ?_); refine goesL_ (some 14) rfl rfl Tryd.func48 (by kernel_rfl) rfl #[.int .i64 a0] rfl (by (try simp only [List.map_toArray, List.map_cons, List.map_nil]); first | done | rfl | (simp only [List.length_drop, List.length_take]; rfl)) ?_; (with_reducible refine (num_Put.calls a0 t139 _ ?sideT A6.out).mono ?_); (case sideT => first | exact HT.out | exact Tabs.below HT.out (by repeat (first | (with_reducible first | exact HB.out | apply below_alloc | apply pw_below_drewN | apply below_drew1) | exact HB.out)) | (repeat (first | exact HT.out | apply Tabs.drewN | apply Tabs.drew | apply Tabs.alloc))); rintro e w10 ⟨rfl, hb⟩; refine ⟨_, rfl, ?_⟩; have n0_ := Aside0.mk (below_step (by repeat (first | (with_reducible first | exact HB.out | apply below_alloc | apply pw_below_drewN | apply below_drew1) | exact HB.out)) hb); clear HB; have HB := n0_; clear n0_; (try clear hb); (try clear hb2); (try clear hk); (try clear hi)) | ((with_reducible refine gate_callee (f := 50) rfl ?_); refine goesL_ (some 21) rfl rfl Tryd.func50 (by kernel_rfl) rfl #[.string ((a1 ++ t139) ++ (⟨#[59]⟩ : ByteArray)), .int .i64 (a1.size : Int)] rfl (by (try simp only [List.map_toArray, List.map_cons, List.map_nil]); first | done | rfl | (simp only [List.length_drop, List.length_take]; rfl)) ?_; (with_reducible refine (num_Span.calls k ((a1 ++ t139) ++ (⟨#[59]⟩ : ByteArray)) (a1.size : Int) t140 _ A9.out).mono ?_); rintro e w11 ⟨rfl, hb⟩; refine ⟨_, rfl, ?_⟩; have n0_ := Aside0.mk (below_step (by repeat (first | (with_reducible first | exact HB.out | apply below_alloc | apply pw_below_drewN | apply below_drew1) | exact HB.out)) hb); clear HB; have HB := n0_; clear n0_; (try clear hb); (try clear hb2); (try clear hk); (try clear hi)))
        go_loopg [7] k (fun kq v7 w' => ∃ (x7_1 : Int), v7 = .int .i64 x7_1 ∧ Aside0 (eyewitnesslaw05_NumSpans.l0 kq a1 t139 t140 x7_1 = some r) ∧ Aside0 (kq ≤ k) ∧ Aside0 (Below w.heap.size w w'))
        case atStart => exact ⟨(0), (by first | rfl | (simp; done) | (simp [*]; done)), H', ⟨Nat.le_refl _⟩, ⟨by repeat (first | (with_reducible first | exact HB.out | apply below_alloc | apply pw_below_drewN | apply below_drew1) | exact HB.out)⟩⟩
        case round =>
          clear H'
          try clear c1
          try clear p2
          try clear c3
          try clear c3b0
          try clear c3b1
          try clear c4
          try clear c5
          try clear c7
          try clear c7b0
          try clear c7b1
          try clear c7b2
          try clear c8
          try clear c8b0
          try clear c8b1
          try clear c8b2
          obtain ⟨x7_1, rfl, HA, HK1, HB⟩ := hrel
          cases gk with
          | zero => exact absurd HA.out (by simp [eyewitnesslaw05_NumSpans.l0])
          | succ k1 =>
            have H := HA.out
            clear HA
            simp only [eyewitnesslaw05_NumSpans.l0] at H
            by_cases c12 : x7_1 ≤ (a1.size : Int)
            · rw [if_pos c12] at H
              have c12b0 : decide (x7_1 ≤ (a1.size : Int)) = true := decide_eq_true c12
              clear c12
              replace H := Option.bind_eq_some_iff.mp H
              obtain ⟨t141, A130, H⟩ := H
              replace H : (if t141 < 0 then (some false) else (if (wrap64 (x7_1 + t141)) > (a1.size : Int) then (some false) else (if t141 > 0 then (if x7_1 < (a1.size : Int) then (if 0 ≤ x7_1 then (if (bt a1 x7_1) = 45 then (eyewitnesslaw05_NumSpans.l0 k1 a1 t139 t140 (wrap64 (x7_1 + 1))) else (if (bt a1 x7_1) < 48 then (some false) else (if (bt a1 x7_1) > 57 then (some false) else (eyewitnesslaw05_NumSpans.l0 k1 a1 t139 t140 (wrap64 (x7_1 + 1)))))) else (none)) else (eyewitnesslaw05_NumSpans.l0 k1 a1 t139 t140 (wrap64 (x7_1 + 1)))) else (eyewitnesslaw05_NumSpans.l0 k1 a1 t139 t140 (wrap64 (x7_1 + 1)))))) = some r := H
              have A13 := Aside0.mk A130
              clear A130
              by_cases c14 : t141 < 0
              · rw [if_pos c14] at H
                have c14b0 : decide (t141 < 0) = true := decide_eq_true c14
                clear c14
                obtain rfl := Option.some.inj H
                go_wp2_with (first | ((with_reducible refine gate_callee (f := 50) rfl ?_); refine goesL_ (some 30) rfl rfl Tryd.func50 (by kernel_rfl) rfl #[.string a1, .int .i64 x7_1] rfl (by (try simp only [List.map_toArray, List.map_cons, List.map_nil]); first | done | rfl | (simp only [List.length_drop, List.length_take]; rfl)) ?_; (with_reducible refine (num_Span.calls k1 a1 x7_1 t141 _ A13.out).mono ?_); rintro e w15 ⟨rfl, hb⟩; refine ⟨_, rfl, ?_⟩; have n0_ := Aside0.mk (below_step (by repeat (first | (with_reducible first | exact HB.out | apply below_alloc | apply pw_below_drewN | apply below_drew1) | exact HB.out)) hb); clear HB; have HB := n0_; clear n0_; (try clear hb); (try clear hb2); (try clear hk); (try clear hi)))
                go_ret
                exact ⟨by first | rfl | (simp [errW_none, errW_some] <;> rfl) | (simp [*, errW_none, errW_some] <;> rfl), by repeat (first | (with_reducible first | exact HB.out | apply below_alloc | apply pw_below_drewN | apply below_drew1) | exact HB.out)⟩
              · rw [if_neg c14] at H
                have c14b0 : decide (t141 < 0) = false := decide_eq_false c14
                clear c14
                by_cases c16 : (wrap64 (x7_1 + t141)) > (a1.size : Int)
                · rw [if_pos c16] at H
                  have c16b0 : decide ((a1.size : Int) < (wrap64 (x7_1 + t141))) = true := decide_eq_true c16
                  clear c16
                  obtain rfl := Option.some.inj H
                  go_wp2_with (first | ((with_reducible refine gate_callee (f := 50) rfl ?_); refine goesL_ (some 30) rfl rfl Tryd.func50 (by kernel_rfl) rfl #[.string a1, .int .i64 x7_1] rfl (by (try simp only [List.map_toArray, List.map_cons, List.map_nil]); first | done | rfl | (simp only [List.length_drop, List.length_take]; rfl)) ?_; (with_reducible refine (num_Span.calls k1 a1 x7_1 t141 _ A13.out).mono ?_); rintro e w17 ⟨rfl, hb⟩; refine ⟨_, rfl, ?_⟩; have n0_ := Aside0.mk (below_step (by repeat (first | (with_reducible first | exact HB.out | apply below_alloc | apply pw_below_drewN | apply below_drew1) | exact HB.out)) hb); clear HB; have HB := n0_; clear n0_; (try clear hb); (try clear hb2); (try clear hk); (try clear hi)))
                  go_ret
                  exact ⟨by first | rfl | (simp [errW_none, errW_some] <;> rfl) | (simp [*, errW_none, errW_some] <;> rfl), by repeat (first | (with_reducible first | exact HB.out | apply below_alloc | apply pw_below_drewN | apply below_drew1) | exact HB.out)⟩
                · rw [if_neg c16] at H
                  have c16b0 : decide ((a1.size : Int) < (wrap64 (x7_1 + t141))) = false := decide_eq_false c16
                  clear c16
                  by_cases c18 : t141 > 0
                  · rw [if_pos c18] at H
                    have c18b0 : decide (0 < t141) = true := decide_eq_true c18
                    clear c18
                    by_cases c19 : x7_1 < (a1.size : Int)
                    · rw [if_pos c19] at H
                      have c19b0 : decide (x7_1 < (a1.size : Int)) = true := decide_eq_true c19
                      clear c19
                      by_cases c20 : 0 ≤ x7_1
                      · rw [if_pos c20] at H
                        have c20b0 : decide (0 ≤ x7_1) = true := decide_eq_true c20
                        clear c20
                        by_cases c22 : (bt a1 x7_1) = 45
                        · rw [if_pos c22] at H
                          have c22b0 : ((bt a1 x7_1) == 45) = true := beq_iff_eq.mpr c22
                          have c22b1 : ((bt a1 x7_1) != 45) = false := bne_eq_false_iff_eq.mpr c22
                          clear c22
                          have H' := Aside0.mk H
                          clear H
                          go_wp2_with (first | ((with_reducible refine gate_callee (f := 50) rfl ?_); refine goesL_ (some 30) rfl rfl Tryd.func50 (by kernel_rfl) rfl #[.string a1, .int .i64 x7_1] rfl (by (try simp only [List.map_toArray, List.map_cons, List.map_nil]); first | done | rfl | (simp only [List.length_drop, List.length_take]; rfl)) ?_; (with_reducible refine (num_Span.calls k1 a1 x7_1 t141 _ A13.out).mono ?_); rintro e w23 ⟨rfl, hb⟩; refine ⟨_, rfl, ?_⟩; have n0_ := Aside0.mk (below_step (by repeat (first | (with_reducible first | exact HB.out | apply below_alloc | apply pw_below_drewN | apply below_drew1) | exact HB.out)) hb); clear HB; have HB := n0_; clear n0_; (try clear hb); (try clear hb2); (try clear hk); (try clear hi); have p21 : 0 ≤ (x7_1 : Int) := of_decide_eq_true (by first | (with_reducible assumption) | assumption); have q21 : x7_1 < (a1.size : Int) := of_decide_eq_true (by first | (with_reducible assumption) | assumption); have hx21 := bt_at a1 x7_1; replace p21 := eq_true p21; replace q21 := eq_true q21))
                          go_roundg k1
                          case measure => have := HK1.out; omega
                          case rel => exact ⟨(wrap64 (x7_1 + 1)), (by first | rfl | (simp; done) | (simp [*]; done)), H', ⟨by have := HK1.out; omega⟩, ⟨by repeat (first | (with_reducible first | exact HB.out | apply below_alloc | apply pw_below_drewN | apply below_drew1) | exact HB.out)⟩⟩
                        · rw [if_neg c22] at H
                          have c22b0 : ((bt a1 x7_1) == 45) = false := beq_eq_false_iff_ne.mpr c22
                          have c22b1 : ((bt a1 x7_1) != 45) = true := bne_iff_ne.mpr c22
                          by_cases c25 : (bt a1 x7_1) < 48
                          · rw [if_pos c25] at H
                            have c25b0 : decide ((bt a1 x7_1) < 48) = true := decide_eq_true c25
                            clear c25
                            obtain rfl := Option.some.inj H
                            go_wp2_with (first | ((with_reducible refine gate_callee (f := 50) rfl ?_); refine goesL_ (some 30) rfl rfl Tryd.func50 (by kernel_rfl) rfl #[.string a1, .int .i64 x7_1] rfl (by (try simp only [List.map_toArray, List.map_cons, List.map_nil]); first | done | rfl | (simp only [List.length_drop, List.length_take]; rfl)) ?_; (with_reducible refine (num_Span.calls k1 a1 x7_1 t141 _ A13.out).mono ?_); rintro e w26 ⟨rfl, hb⟩; refine ⟨_, rfl, ?_⟩; have n0_ := Aside0.mk (below_step (by repeat (first | (with_reducible first | exact HB.out | apply below_alloc | apply pw_below_drewN | apply below_drew1) | exact HB.out)) hb); clear HB; have HB := n0_; clear n0_; (try clear hb); (try clear hb2); (try clear hk); (try clear hi); have p21 : 0 ≤ (x7_1 : Int) := of_decide_eq_true (by first | (with_reducible assumption) | assumption); have q21 : x7_1 < (a1.size : Int) := of_decide_eq_true (by first | (with_reducible assumption) | assumption); have hx21 := bt_at a1 x7_1; replace p21 := eq_true p21; replace q21 := eq_true q21; have p24 : 0 ≤ (x7_1 : Int) := of_decide_eq_true (by first | (with_reducible assumption) | assumption); have q24 : x7_1 < (a1.size : Int) := of_decide_eq_true (by first | (with_reducible assumption) | assumption); have hx24 := bt_at a1 x7_1; replace p24 := eq_true p24; replace q24 := eq_true q24))
                            go_ret
                            exact ⟨by first | rfl | (simp [errW_none, errW_some] <;> rfl) | (simp [*, errW_none, errW_some] <;> rfl), by repeat (first | (with_reducible first | exact HB.out | apply below_alloc | apply pw_below_drewN | apply below_drew1) | exact HB.out)⟩
                          · rw [if_neg c25] at H
                            have c25b0 : decide ((bt a1 x7_1) < 48) = false := decide_eq_false c25
                            clear c25
                            by_cases c28 : (bt a1 x7_1) > 57
                            · rw [if_pos c28] at H
                              have c28b0 : decide (57 < (bt a1 x7_1)) = true := decide_eq_true c28
                              clear c28
                              obtain rfl := Option.some.inj H
                              go_wp2_with (first | ((with_reducible refine gate_callee (f := 50) rfl ?_); refine goesL_ (some 30) rfl rfl Tryd.func50 (by kernel_rfl) rfl #[.string a1, .int .i64 x7_1] rfl (by (try simp only [List.map_toArray, List.map_cons, List.map_nil]); first | done | rfl | (simp only [List.length_drop, List.length_take]; rfl)) ?_; (with_reducible refine (num_Span.calls k1 a1 x7_1 t141 _ A13.out).mono ?_); rintro e w29 ⟨rfl, hb⟩; refine ⟨_, rfl, ?_⟩; have n0_ := Aside0.mk (below_step (by repeat (first | (with_reducible first | exact HB.out | apply below_alloc | apply pw_below_drewN | apply below_drew1) | exact HB.out)) hb); clear HB; have HB := n0_; clear n0_; (try clear hb); (try clear hb2); (try clear hk); (try clear hi); have p21 : 0 ≤ (x7_1 : Int) := of_decide_eq_true (by first | (with_reducible assumption) | assumption); have q21 : x7_1 < (a1.size : Int) := of_decide_eq_true (by first | (with_reducible assumption) | assumption); have hx21 := bt_at a1 x7_1; replace p21 := eq_true p21; replace q21 := eq_true q21; have p24 : 0 ≤ (x7_1 : Int) := of_decide_eq_true (by first | (with_reducible assumption) | assumption); have q24 : x7_1 < (a1.size : Int) := of_decide_eq_true (by first | (with_reducible assumption) | assumption); have hx24 := bt_at a1 x7_1; replace p24 := eq_true p24; replace q24 := eq_true q24; have p27 : 0 ≤ (x7_1 : Int) := of_decide_eq_true (by first | (with_reducible assumption) | assumption); have q27 : x7_1 < (a1.size : Int) := of_decide_eq_true (by first | (with_reducible assumption) | assumption); have hx27 := bt_at a1 x7_1; replace p27 := eq_true p27; replace q27 := eq_true q27))
                              go_ret
                              exact ⟨by first | rfl | (simp [errW_none, errW_some] <;> rfl) | (simp [*, errW_none, errW_some] <;> rfl), by repeat (first | (with_reducible first | exact HB.out | apply below_alloc | apply pw_below_drewN | apply below_drew1) | exact HB.out)⟩
                            · rw [if_neg c28] at H
                              have c28b0 : decide (57 < (bt a1 x7_1)) = false := decide_eq_false c28
                              clear c28
                              have H' := Aside0.mk H
                              clear H
                              go_wp2_with (first | ((with_reducible refine gate_callee (f := 50) rfl ?_); refine goesL_ (some 30) rfl rfl Tryd.func50 (by kernel_rfl) rfl #[.string a1, .int .i64 x7_1] rfl (by (try simp only [List.map_toArray, List.map_cons, List.map_nil]); first | done | rfl | (simp only [List.length_drop, List.length_take]; rfl)) ?_; (with_reducible refine (num_Span.calls k1 a1 x7_1 t141 _ A13.out).mono ?_); rintro e w30 ⟨rfl, hb⟩; refine ⟨_, rfl, ?_⟩; have n0_ := Aside0.mk (below_step (by repeat (first | (with_reducible first | exact HB.out | apply below_alloc | apply pw_below_drewN | apply below_drew1) | exact HB.out)) hb); clear HB; have HB := n0_; clear n0_; (try clear hb); (try clear hb2); (try clear hk); (try clear hi); have p21 : 0 ≤ (x7_1 : Int) := of_decide_eq_true (by first | (with_reducible assumption) | assumption); have q21 : x7_1 < (a1.size : Int) := of_decide_eq_true (by first | (with_reducible assumption) | assumption); have hx21 := bt_at a1 x7_1; replace p21 := eq_true p21; replace q21 := eq_true q21; have p24 : 0 ≤ (x7_1 : Int) := of_decide_eq_true (by first | (with_reducible assumption) | assumption); have q24 : x7_1 < (a1.size : Int) := of_decide_eq_true (by first | (with_reducible assumption) | assumption); have hx24 := bt_at a1 x7_1; replace p24 := eq_true p24; replace q24 := eq_true q24; have p27 : 0 ≤ (x7_1 : Int) := of_decide_eq_true (by first | (with_reducible assumption) | assumption); have q27 : x7_1 < (a1.size : Int) := of_decide_eq_true (by first | (with_reducible assumption) | assumption); have hx27 := bt_at a1 x7_1; replace p27 := eq_true p27; replace q27 := eq_true q27))
                              go_roundg k1
                              case measure => have := HK1.out; omega
                              case rel => exact ⟨(wrap64 (x7_1 + 1)), (by first | rfl | (simp; done) | (simp [*]; done)), H', ⟨by have := HK1.out; omega⟩, ⟨by repeat (first | (with_reducible first | exact HB.out | apply below_alloc | apply pw_below_drewN | apply below_drew1) | exact HB.out)⟩⟩
                      · rw [if_neg c20] at H
                        exact absurd H (by simp)
                    · rw [if_neg c19] at H
                      have c19b0 : decide (x7_1 < (a1.size : Int)) = false := decide_eq_false c19
                      clear c19
                      have H' := Aside0.mk H
                      clear H
                      go_wp2_with (first | ((with_reducible refine gate_callee (f := 50) rfl ?_); refine goesL_ (some 30) rfl rfl Tryd.func50 (by kernel_rfl) rfl #[.string a1, .int .i64 x7_1] rfl (by (try simp only [List.map_toArray, List.map_cons, List.map_nil]); first | done | rfl | (simp only [List.length_drop, List.length_take]; rfl)) ?_; (with_reducible refine (num_Span.calls k1 a1 x7_1 t141 _ A13.out).mono ?_); rintro e w31 ⟨rfl, hb⟩; refine ⟨_, rfl, ?_⟩; have n0_ := Aside0.mk (below_step (by repeat (first | (with_reducible first | exact HB.out | apply below_alloc | apply pw_below_drewN | apply below_drew1) | exact HB.out)) hb); clear HB; have HB := n0_; clear n0_; (try clear hb); (try clear hb2); (try clear hk); (try clear hi)))
                      go_roundg k1
                      case measure => have := HK1.out; omega
                      case rel => exact ⟨(wrap64 (x7_1 + 1)), (by first | rfl | (simp; done) | (simp [*]; done)), H', ⟨by have := HK1.out; omega⟩, ⟨by repeat (first | (with_reducible first | exact HB.out | apply below_alloc | apply pw_below_drewN | apply below_drew1) | exact HB.out)⟩⟩
                  · rw [if_neg c18] at H
                    have c18b0 : decide (0 < t141) = false := decide_eq_false c18
                    clear c18
                    have H' := Aside0.mk H
                    clear H
                    go_wp2_with (first | ((with_reducible refine gate_callee (f := 50) rfl ?_); refine goesL_ (some 30) rfl rfl Tryd.func50 (by kernel_rfl) rfl #[.string a1, .int .i64 x7_1] rfl (by (try simp only [List.map_toArray, List.map_cons, List.map_nil]); first | done | rfl | (simp only [List.length_drop, List.length_take]; rfl)) ?_; (with_reducible refine (num_Span.calls k1 a1 x7_1 t141 _ A13.out).mono ?_); rintro e w32 ⟨rfl, hb⟩; refine ⟨_, rfl, ?_⟩; have n0_ := Aside0.mk (below_step (by repeat (first | (with_reducible first | exact HB.out | apply below_alloc | apply pw_below_drewN | apply below_drew1) | exact HB.out)) hb); clear HB; have HB := n0_; clear n0_; (try clear hb); (try clear hb2); (try clear hk); (try clear hi)))
                    go_roundg k1
                    case measure => have := HK1.out; omega
                    case rel => exact ⟨(wrap64 (x7_1 + 1)), (by first | rfl | (simp; done) | (simp [*]; done)), H', ⟨by have := HK1.out; omega⟩, ⟨by repeat (first | (with_reducible first | exact HB.out | apply below_alloc | apply pw_below_drewN | apply below_drew1) | exact HB.out)⟩⟩
            · rw [if_neg c12] at H
              have c12b0 : decide (x7_1 ≤ (a1.size : Int)) = false := decide_eq_false c12
              clear c12
              replace H := Option.bind_eq_some_iff.mp H
              obtain ⟨t142, A330, H⟩ := H
              replace H : (if t142 = true then (some (t140 == (t139.size : Int))) else (some false)) = some r := H
              have A33 := Aside0.mk A330
              clear A330
              by_cases c34 : t142 = true
              · subst c34
                have H1 : (some (t140 == (t139.size : Int))) = some r := by rw [if_pos rfl] at H; exact H
                clear H
                have H := H1
                clear H1
                obtain rfl := Option.some.inj H
                go_wp2_with (first | ((with_reducible refine gate_callee (f := 45) rfl ?_); refine goesL_ (some 69) rfl rfl Tryd.func45 (by kernel_rfl) rfl #[] rfl (by (try simp only [List.map_toArray, List.map_cons, List.map_nil]); first | done | rfl | (simp only [List.length_drop, List.length_take]; rfl)) ?_; (with_reducible refine (eyewitnesslaw05_awake.calls k1  true _ ?sideT A33.out).mono ?_); (case sideT => first | exact HT.out | exact Tabs.below HT.out (by repeat (first | (with_reducible first | exact HB.out | apply below_alloc | apply pw_below_drewN | apply below_drew1) | exact HB.out)) | (repeat (first | exact HT.out | apply Tabs.drewN | apply Tabs.drew | apply Tabs.alloc))); rintro e w35 ⟨rfl, hb⟩; refine ⟨_, rfl, ?_⟩; have n0_ := Aside0.mk (below_step (by repeat (first | (with_reducible first | exact HB.out | apply below_alloc | apply pw_below_drewN | apply below_drew1) | exact HB.out)) hb); clear HB; have HB := n0_; clear n0_; (try clear hb); (try clear hb2); (try clear hk); (try clear hi)))
                go_ret
                exact ⟨by first | rfl | (simp [errW_none, errW_some] <;> rfl) | (simp [*, errW_none, errW_some] <;> rfl), by repeat (first | (with_reducible first | exact HB.out | apply below_alloc | apply pw_below_drewN | apply below_drew1) | exact HB.out)⟩
              · replace c34 := Bool.eq_false_iff.mpr c34
                subst c34
                have H1 : (some false) = some r := by rw [if_neg (show ¬ (false = true) by decide)] at H; exact H
                clear H
                have H := H1
                clear H1
                obtain rfl := Option.some.inj H
                go_wp2_with (first | ((with_reducible refine gate_callee (f := 45) rfl ?_); refine goesL_ (some 69) rfl rfl Tryd.func45 (by kernel_rfl) rfl #[] rfl (by (try simp only [List.map_toArray, List.map_cons, List.map_nil]); first | done | rfl | (simp only [List.length_drop, List.length_take]; rfl)) ?_; (with_reducible refine (eyewitnesslaw05_awake.calls k1  false _ ?sideT A33.out).mono ?_); (case sideT => first | exact HT.out | exact Tabs.below HT.out (by repeat (first | (with_reducible first | exact HB.out | apply below_alloc | apply pw_below_drewN | apply below_drew1) | exact HB.out)) | (repeat (first | exact HT.out | apply Tabs.drewN | apply Tabs.drew | apply Tabs.alloc))); rintro e w36 ⟨rfl, hb⟩; refine ⟨_, rfl, ?_⟩; have n0_ := Aside0.mk (below_step (by repeat (first | (with_reducible first | exact HB.out | apply below_alloc | apply pw_below_drewN | apply below_drew1) | exact HB.out)) hb); clear HB; have HB := n0_; clear n0_; (try clear hb); (try clear hb2); (try clear hk); (try clear hi)))
                go_ret
                exact ⟨by first | rfl | (simp [errW_none, errW_some] <;> rfl) | (simp [*, errW_none, errW_some] <;> rfl), by repeat (first | (with_reducible first | exact HB.out | apply below_alloc | apply pw_below_drewN | apply below_drew1) | exact HB.out)⟩
      · rw [if_neg c8] at H
        exact absurd H (by simp)
    · rw [if_neg c7] at H
      exact absurd H (by simp)

/-- THE ONE PURE STATEMENT of eyewitnesslaw05_NumSpans: yours. -/
def eyewitnesslaw05_NumSpans.Pure : Prop := ∀ (a0 : Int) (a1 : ByteArray), (Lit.int .i64 a0).wf = true → a1.size ≤ 140737488351232 → ∃ k, eyewitnesslaw05_NumSpans.f k a0 a1 = some true
theorem eyewitnesslaw05_NumSpans.walk (P : eyewitnesslaw05_NumSpans.Pure) (a0 : Int) (a1 : ByteArray) (w : World) (hT : Tabs w) (w0 : (Lit.int .i64 a0).wf = true) (w1 : a1.size ≤ 140737488351232) :
    Calls Tryd.prog 15 #[.int .i64 a0, .string a1] w fun e w' => e = .returned (.bool true) ∧ Below w.heap.size w w' := by
  obtain ⟨k, h⟩ := P a0 a1 w0 w1
  refine (eyewitnesslaw05_NumSpans.calls k a0 a1 true w hT h).mono ?_
  rintro e w' ⟨rfl, hd⟩
  exact ⟨rfl, hd⟩

end Go.Proofs.YtcabnjinfkjnjaaDoor.X
