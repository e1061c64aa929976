-- Written by a program of this session (xprint.py over the kit's print): functions, their contracts, laws.
import Derived.Test.YtcabnjinfkjnjaaDoorXHx0
import Derived.Test.YtcabnjinfkjnjaaDoorXNx1
import Derived.Test.YtcabnjinfkjnjaaDoorXNx2
import Derived.Test.YtcabnjinfkjnjaaDoorGNum
namespace Go.Proofs.YtcabnjinfkjnjaaDoor.XH
open Go.RowKit Go.Proofs.YtcabnjinfkjnjaaDoorW.PrintWords Go.Proofs.YtcabnjinfkjnjaaDoorW.PrintLast Go.Proofs.YtcabnjinfkjnjaaDoorW.PrintMore Go.Proofs.YtcabnjinfkjnjaaDoor.X
attribute [local go_sem] max2_int min2_int max_two min_two max_three min_three max_four min_four   -- for this text's walks alone
set_option linter.unusedVariables false
set_option linter.unusedSimpArgs false

/-! ### eyewitnessref07_one: function 75 -/
mutual
def eyewitnessref07_one.j0 : Nat → ByteArray → Int → Bool → Option (Bool × ByteArray × Int × Int × Int)
  | 0, _, _, _ => none
  | k + 1, x0, x1, x27 => if x27 = true then (some (false, (⟨#[]⟩ : ByteArray), 0, x1, 2)) else (if 0 ≤ x1 then (if x1 < (x0.size : Int) then (if (wrap64 (x1 + 1)) ≥ (x0.size : Int) then (eyewitnessref07_one.j1 k x0 (wrap64 (x1 + 1)) true ((bt x0 x1) == 119) (⟨#[]⟩ : ByteArray) 0) else (if 0 ≤ (wrap64 (x1 + 1)) then (if (wrap64 (x1 + 1)) < (x0.size : Int) then (eyewitnessref07_one.j1 k x0 (wrap64 (x1 + 1)) ((bt x0 (wrap64 (x1 + 1))) != 58) ((bt x0 x1) == 119) (⟨#[]⟩ : ByteArray) 0) else (none)) else (none))) else (none)) else (none))
def eyewitnessref07_one.j1 : Nat → ByteArray → Int → Bool → Bool → ByteArray → Int → Option (Bool × ByteArray × Int × Int × Int)
  | 0, _, _, _, _, _, _ => none
  | k + 1, x0, x1, x46, x347000, x347001, x347002 => if x46 = true then (some (false, (⟨#[]⟩ : ByteArray), 0, x1, 2)) else (eyewitnessref07_one.l0 k x0 (wrap64 (x1 + 1)) 0 x347000 x347001 x347002)
def eyewitnessref07_one.j3 : Nat → ByteArray → Int → Int → Bool → ByteArray → Int → Option (Bool × ByteArray × Int × Int × Int)
  | 0, _, _, _, _, _, _ => none
  | k + 1, x0, x1, x8, x347000, x347001, x347002 => if 0 ≤ x1 then (if x1 ≤ (wrap64 (x1 + x8)) then (if (wrap64 (x1 + x8)) ≤ (x0.size : Int) then (if x8 = 0 then (eyewitnessref07_one.j4 k x0 (wrap64 (x1 + x8)) true x347000 (x0.extract (x1 : Int).toNat ((wrap64 (x1 + x8)) : Int).toNat) x347002) else (if (wrap64 (x1 + x8)) ≥ (x0.size : Int) then (eyewitnessref07_one.j4 k x0 (wrap64 (x1 + x8)) true x347000 (x0.extract (x1 : Int).toNat ((wrap64 (x1 + x8)) : Int).toNat) x347002) else (if 0 ≤ (wrap64 (x1 + x8)) then (if (wrap64 (x1 + x8)) < (x0.size : Int) then (eyewitnessref07_one.j4 k x0 (wrap64 (x1 + x8)) ((bt x0 (wrap64 (x1 + x8))) != 61) x347000 (x0.extract (x1 : Int).toNat ((wrap64 (x1 + x8)) : Int).toNat) x347002) else (none)) else (none)))) else (none)) else (none)) else (none)
def eyewitnessref07_one.j4 : Nat → ByteArray → Int → Bool → Bool → ByteArray → Int → Option (Bool × ByteArray × Int × Int × Int)
  | 0, _, _, _, _, _, _ => none
  | k + 1, x0, x1, x102, x347000, x347001, x347002 => if x102 = true then (some (false, (⟨#[]⟩ : ByteArray), 0, x1, 2)) else ((eyewitnessref05_Span.f k x0 (wrap64 (x1 + 1))).bind fun t347 => (if 0 ≤ (wrap64 (x1 + 1)) then (if (wrap64 (x1 + 1)) ≤ (wrap64 ((wrap64 (x1 + 1)) + t347)) then (if (wrap64 ((wrap64 (x1 + 1)) + t347)) ≤ (x0.size : Int) then ((eyewitnessref05_Get.f k (x0.extract ((wrap64 (x1 + 1)) : Int).toNat ((wrap64 ((wrap64 (x1 + 1)) + t347)) : Int).toNat)).bind fun bt348 => (if bt348.2 = 0 then (some (x347000, x347001, bt348.1, wrap64 ((wrap64 (x1 + 1)) + t347), 0)) else (some (false, (⟨#[]⟩ : ByteArray), 0, wrap64 (x1 + 1), bt348.2)))) else (none)) else (none)) else (none)))
def eyewitnessref07_one.l0 : Nat → ByteArray → Int → Int → Bool → ByteArray → Int → Option (Bool × ByteArray × Int × Int × Int)
  | 0, _, _, _, _, _, _ => none
  | k + 1, x0, x1, x8, x347000, x347001, x347002 => if x8 < 8 then (if (wrap64 (x1 + x8)) < (x0.size : Int) then (if 0 ≤ (wrap64 (x1 + x8)) then (if (bt x0 (wrap64 (x1 + x8))) ≥ 97 then (if (bt x0 (wrap64 (x1 + x8))) ≤ 122 then (eyewitnessref07_one.l0 k x0 x1 (wrap64 (x8 + 1)) x347000 x347001 x347002) else (eyewitnessref07_one.j3 k x0 x1 x8 x347000 x347001 x347002)) else (eyewitnessref07_one.j3 k x0 x1 x8 x347000 x347001 x347002)) else (none)) else (eyewitnessref07_one.j3 k x0 x1 x8 x347000 x347001 x347002)) else (eyewitnessref07_one.j3 k x0 x1 x8 x347000 x347001 x347002)
end
def eyewitnessref07_one.f (k : Nat) (a0 : ByteArray) (a1 : Int) : Option (Bool × ByteArray × Int × Int × Int) := if a1 ≥ (a0.size : Int) then (eyewitnessref07_one.j0 k a0 a1 true) else (if 0 ≤ a1 then (if a1 < (a0.size : Int) then (if (bt a0 a1) = 119 then (eyewitnessref07_one.j0 k a0 a1 false) else (eyewitnessref07_one.j0 k a0 a1 ((bt a0 a1) != 114))) else (none)) else (none))
theorem eyewitnessref07_one.mono_l : ∀ k, (∀ y0 y1 y2, LeO (eyewitnessref07_one.j0 k y0 y1 y2) (eyewitnessref07_one.j0 (k + 1) y0 y1 y2)) ∧ (∀ y0 y1 y2 y3 y4 y5, LeO (eyewitnessref07_one.j1 k y0 y1 y2 y3 y4 y5) (eyewitnessref07_one.j1 (k + 1) y0 y1 y2 y3 y4 y5)) ∧ (∀ y0 y1 y2 y3 y4 y5, LeO (eyewitnessref07_one.j3 k y0 y1 y2 y3 y4 y5) (eyewitnessref07_one.j3 (k + 1) y0 y1 y2 y3 y4 y5)) ∧ (∀ y0 y1 y2 y3 y4 y5, LeO (eyewitnessref07_one.j4 k y0 y1 y2 y3 y4 y5) (eyewitnessref07_one.j4 (k + 1) y0 y1 y2 y3 y4 y5)) ∧ (∀ y0 y1 y2 y3 y4 y5, LeO (eyewitnessref07_one.l0 k y0 y1 y2 y3 y4 y5) (eyewitnessref07_one.l0 (k + 1) y0 y1 y2 y3 y4 y5))
  | 0 => ⟨fun _ _ _ r h => by simp [eyewitnessref07_one.j0] at h, fun _ _ _ _ _ _ r h => by simp [eyewitnessref07_one.j1] at h, fun _ _ _ _ _ _ r h => by simp [eyewitnessref07_one.j3] at h, fun _ _ _ _ _ _ r h => by simp [eyewitnessref07_one.j4] at h, fun _ _ _ _ _ _ r h => by simp [eyewitnessref07_one.l0] at h⟩
  | k + 1 => by
    obtain ⟨ih0, ih1, ih2, ih3, ih4⟩ := eyewitnessref07_one.mono_l k
    refine ⟨?_, ?_, ?_, ?_, ?_⟩
    · intro y0 y1 y2
      unfold eyewitnessref07_one.j0
      repeat' first
      | (with_reducible exact ih0 _ _ _)
      | (with_reducible exact ih1 _ _ _ _ _ _)
      | (with_reducible exact ih2 _ _ _ _ _ _)
      | (with_reducible exact ih3 _ _ _ _ _ _)
      | (with_reducible exact ih4 _ _ _ _ _ _)
      | (with_reducible exact eyewitnessref05_Get.mono _ _)
      | (with_reducible exact eyewitnessref05_Span.mono _ _ _)
      | (with_reducible exact LeO.refl _)
      | (with_reducible exact LeO.none _)
      | (with_reducible refine LeO.ite ?_ ?_)
      | (with_reducible refine LeO.bind ?_ (fun _ => ?_))
      | exact ih0 _ _ _
      | exact ih1 _ _ _ _ _ _
      | exact ih2 _ _ _ _ _ _
      | exact ih3 _ _ _ _ _ _
      | exact ih4 _ _ _ _ _ _
      | exact eyewitnessref05_Get.mono _ _
      | exact eyewitnessref05_Span.mono _ _ _
      | exact LeO.none _
      | refine LeO.ite ?_ ?_
      | refine LeO.bind ?_ (fun _ => ?_)
    · intro y0 y1 y2 y3 y4 y5
      unfold eyewitnessref07_one.j1
      repeat' first
      | (with_reducible exact ih0 _ _ _)
      | (with_reducible exact ih1 _ _ _ _ _ _)
      | (with_reducible exact ih2 _ _ _ _ _ _)
      | (with_reducible exact ih3 _ _ _ _ _ _)
      | (with_reducible exact ih4 _ _ _ _ _ _)
      | (with_reducible exact eyewitnessref05_Get.mono _ _)
      | (with_reducible exact eyewitnessref05_Span.mono _ _ _)
      | (with_reducible exact LeO.refl _)
      | (with_reducible exact LeO.none _)
      | (with_reducible refine LeO.ite ?_ ?_)
      | (with_reducible refine LeO.bind ?_ (fun _ => ?_))
      | exact ih0 _ _ _
      | exact ih1 _ _ _ _ _ _
      | exact ih2 _ _ _ _ _ _
      | exact ih3 _ _ _ _ _ _
      | exact ih4 _ _ _ _ _ _
      | exact eyewitnessref05_Get.mono _ _
      | exact eyewitnessref05_Span.mono _ _ _
      | exact LeO.none _
      | refine LeO.ite ?_ ?_
      | refine LeO.bind ?_ (fun _ => ?_)
    · intro y0 y1 y2 y3 y4 y5
      unfold eyewitnessref07_one.j3
      repeat' first
      | (with_reducible exact ih0 _ _ _)
      | (with_reducible exact ih1 _ _ _ _ _ _)
      | (with_reducible exact ih2 _ _ _ _ _ _)
      | (with_reducible exact ih3 _ _ _ _ _ _)
      | (with_reducible exact ih4 _ _ _ _ _ _)
      | (with_reducible exact eyewitnessref05_Get.mono _ _)
      | (with_reducible exact eyewitnessref05_Span.mono _ _ _)
      | (with_reducible exact LeO.refl _)
      | (with_reducible exact LeO.none _)
      | (with_reducible refine LeO.ite ?_ ?_)
      | (with_reducible refine LeO.bind ?_ (fun _ => ?_))
      | exact ih0 _ _ _
      | exact ih1 _ _ _ _ _ _
      | exact ih2 _ _ _ _ _ _
      | exact ih3 _ _ _ _ _ _
      | exact ih4 _ _ _ _ _ _
      | exact eyewitnessref05_Get.mono _ _
      | exact eyewitnessref05_Span.mono _ _ _
      | exact LeO.none _
      | refine LeO.ite ?_ ?_
      | refine LeO.bind ?_ (fun _ => ?_)
    · intro y0 y1 y2 y3 y4 y5
      unfold eyewitnessref07_one.j4
      repeat' first
      | (with_reducible exact ih0 _ _ _)
      | (with_reducible exact ih1 _ _ _ _ _ _)
      | (with_reducible exact ih2 _ _ _ _ _ _)
      | (with_reducible exact ih3 _ _ _ _ _ _)
      | (with_reducible exact ih4 _ _ _ _ _ _)
      | (with_reducible exact eyewitnessref05_Get.mono _ _)
      | (with_reducible exact eyewitnessref05_Span.mono _ _ _)
      | (with_reducible exact LeO.refl _)
      | (with_reducible exact LeO.none _)
      | (with_reducible refine LeO.ite ?_ ?_)
      | (with_reducible refine LeO.bind ?_ (fun _ => ?_))
      | exact ih0 _ _ _
      | exact ih1 _ _ _ _ _ _
      | exact ih2 _ _ _ _ _ _
      | exact ih3 _ _ _ _ _ _
      | exact ih4 _ _ _ _ _ _
      | exact eyewitnessref05_Get.mono _ _
      | exact eyewitnessref05_Span.mono _ _ _
      | exact LeO.none _
      | refine LeO.ite ?_ ?_
      | refine LeO.bind ?_ (fun _ => ?_)
    · intro y0 y1 y2 y3 y4 y5
      unfold eyewitnessref07_one.l0
      repeat' first
      | (with_reducible exact ih0 _ _ _)
      | (with_reducible exact ih1 _ _ _ _ _ _)
      | (with_reducible exact ih2 _ _ _ _ _ _)
      | (with_reducible exact ih3 _ _ _ _ _ _)
      | (with_reducible exact ih4 _ _ _ _ _ _)
      | (with_reducible exact eyewitnessref05_Get.mono _ _)
      | (with_reducible exact eyewitnessref05_Span.mono _ _ _)
      | (with_reducible exact LeO.refl _)
      | (with_reducible exact LeO.none _)
      | (with_reducible refine LeO.ite ?_ ?_)
      | (with_reducible refine LeO.bind ?_ (fun _ => ?_))
      | exact ih0 _ _ _
      | exact ih1 _ _ _ _ _ _
      | exact ih2 _ _ _ _ _ _
      | exact ih3 _ _ _ _ _ _
      | exact ih4 _ _ _ _ _ _
      | exact eyewitnessref05_Get.mono _ _
      | exact eyewitnessref05_Span.mono _ _ _
      | exact LeO.none _
      | refine LeO.ite ?_ ?_
      | refine LeO.bind ?_ (fun _ => ?_)
theorem eyewitnessref07_one.mono : ∀ a0 a1 k, LeO (eyewitnessref07_one.f k a0 a1) (eyewitnessref07_one.f (k + 1) a0 a1) := by
  intro a0 a1 k
  obtain ⟨ih0, ih1, ih2, ih3, ih4⟩ := eyewitnessref07_one.mono_l k
  unfold eyewitnessref07_one.f
  repeat' first
      | (with_reducible exact ih0 _ _ _)
      | (with_reducible exact ih1 _ _ _ _ _ _)
      | (with_reducible exact ih2 _ _ _ _ _ _)
      | (with_reducible exact ih3 _ _ _ _ _ _)
      | (with_reducible exact ih4 _ _ _ _ _ _)
      | (with_reducible exact eyewitnessref05_Get.mono _ _)
      | (with_reducible exact eyewitnessref05_Span.mono _ _ _)
      | (with_reducible exact LeO.refl _)
      | (with_reducible exact LeO.none _)
      | (with_reducible refine LeO.ite ?_ ?_)
      | (with_reducible refine LeO.bind ?_ (fun _ => ?_))
      | exact ih0 _ _ _
      | exact ih1 _ _ _ _ _ _
      | exact ih2 _ _ _ _ _ _
      | exact ih3 _ _ _ _ _ _
      | exact ih4 _ _ _ _ _ _
      | exact eyewitnessref05_Get.mono _ _
      | exact eyewitnessref05_Span.mono _ _ _
      | exact LeO.none _
      | refine LeO.ite ?_ ?_
      | refine LeO.bind ?_ (fun _ => ?_)
set_option maxHeartbeats 8000000 in
set_option maxRecDepth 100000 in
theorem eyewitnessref07_one.calls (k : Nat) (a0 : ByteArray) (a1 : Int) (r1 : Bool) (r2 : ByteArray) (r3 : Int) (r4 : Int) (r5 : Int) (w : World) (h : eyewitnessref07_one.f k a0 a1 = some (r1, r2, r3, r4, r5)) :
    Calls Tryd.prog 75 #[.string a0, .int .i64 a1] w fun e w' => e = .returned (.tuple #[.agg #[.bool r1, .string r2, .int .i64 r3], .int .i64 r4, .int .i64 r5]) ∧ Below w.heap.size w w' := by
  have hu61 := Tryd.underlying61
  have HB := Aside0.mk (Below.refl w.heap.size w)
  have H : (if a1 ≥ (a0.size : Int) then (eyewitnessref07_one.j0 k a0 a1 true) else (if 0 ≤ a1 then (if a1 < (a0.size : Int) then (if (bt a0 a1) = 119 then (eyewitnessref07_one.j0 k a0 a1 false) else (eyewitnessref07_one.j0 k a0 a1 ((bt a0 a1) != 114))) else (none)) else (none))) = some (r1, r2, r3, r4, r5) := h
  clear h
  have HC3 := Aside0.mk H
  clear H
  go_enter Tryd.func75, Tryd.ntmps75
  go_upto_region 1 with (first | ((with_reducible refine gate_dst (N := 4) rfl ?_); (try (refine gate_guard (by rfl) ?_; dsimp only)); refine box_event ?hg (N := 4) ?hd (cs := #[.bool false, .string (⟨#[]⟩ : ByteArray), .int .i64 0]) (t := 61) ?hr ?_; (case hd => rfl); (case hg => rfl); (case hr => first | (go_simp; done) | (go_simp; rfl)); intro gb345 hg w4 hbox hb; have n0_ := Aside0.mk (below_step (by repeat (first | (with_reducible first | exact HB.out | apply below_alloc | apply pw_below_drewN | apply below_drew1) | exact HB.out)) hb); have n1_ := Aside0.mk (hbox); have n2_ := Aside0.mk ((by rw [hg]; exact (below_size (by repeat (first | (with_reducible first | exact HB.out | apply below_alloc | apply pw_below_drewN | apply below_drew1) | exact HB.out))) : w.heap.size ≤ gb345)); have n3_ := Aside0.mk ((by rw [hg]; exact (below_size (by repeat (first | (with_reducible first | exact HB.out | apply below_alloc | apply pw_below_drewN | apply below_drew1) | exact HB.out))) : w.heap.size ≤ gb345)); clear HB; have HB := n0_; have BK345 := n1_; have GW345 := n2_; have GE345 := n3_; clear n0_ n1_ n2_ n3_; clear hb hbox hg))
  (try simp only [Act.put, List.setIfInBounds_toArray, List.set_cons_zero, List.set_cons_succ])
  go_cut [27] (fun v27 wc => ∃ (kq : Nat) (x27_2 : Bool), v27 = .bool x27_2 ∧ Aside0 (eyewitnessref07_one.j0 kq a0 a1 x27_2 = some (r1, r2, r3, r4, r5)) ∧ Aside0 (kq ≤ k) ∧ Aside0 (wc.heap[gb345]? = some (.cells #[.bool false, .string (⟨#[]⟩ : ByteArray), .int .i64 0] 61 (0, 0))) ∧ Aside0 (Below w.heap.size w wc))
  case first =>
    have H := HC3.out
    clear HC3
    by_cases c5 : a1 ≥ (a0.size : Int)
    · rw [if_pos c5] at H
      have c5b0 : decide ((a0.size : Int) ≤ a1) = true := decide_eq_true c5
      clear c5
      (first | rw [c5b0] | rw [c5b1] | (simp only [i64_w, i32_w]; rw [c5b0]) | skip)
      have H' := Aside0.mk H
      clear H
      go_wp2
      go_meet
      case rel => exact ⟨_, (true), (by first | rfl | (simp; done) | (simp [*]; done)), H', ⟨by first | omega | exact Nat.le_refl _⟩, ⟨by (with_reducible repeat (first | refine blk_drewN ?_ _ | refine blk_drew ?_ | refine blk_alloc ?_ _)); exact BK345.out⟩, ⟨by repeat (first | (with_reducible first | exact HB.out | apply below_alloc | apply pw_below_drewN | apply below_drew1 | refine below_set ?_ GE345.out) | exact HB.out)⟩⟩
    · rw [if_neg c5] at H
      have c5b0 : decide ((a0.size : Int) ≤ a1) = false := decide_eq_false c5
      clear c5
      (first | rw [c5b0] | rw [c5b1] | (simp only [i64_w, i32_w]; rw [c5b0]) | skip)
      by_cases c6 : 0 ≤ a1
      · rw [if_pos c6] at H
        have c6b0 : decide (0 ≤ a1) = true := decide_eq_true c6
        clear c6
        by_cases c7 : a1 < (a0.size : Int)
        · rw [if_pos c7] at H
          have c7b0 : decide (a1 < (a0.size : Int)) = true := decide_eq_true c7
          clear c7
          by_cases c9 : (bt a0 a1) = 119
          · rw [if_pos c9] at H
            have c9b0 : ((bt a0 a1) == 119) = true := beq_iff_eq.mpr c9
            have c9b1 : ((bt a0 a1) != 119) = false := bne_eq_false_iff_eq.mpr c9
            clear c9
            have H' := Aside0.mk H
            clear H
            have p8 : 0 ≤ (a1 : Int) := of_decide_eq_true (by first | (with_reducible assumption) | assumption)
            have q8 : a1 < (a0.size : Int) := of_decide_eq_true (by first | (with_reducible assumption) | assumption)
            have hx8 := bt_at a0 a1
            replace p8 := eq_true p8
            replace q8 := eq_true q8
            go_wp2
            go_meet
            case rel => exact ⟨_, (false), (by first | rfl | (simp; done) | (simp [*]; done)), H', ⟨by first | omega | exact Nat.le_refl _⟩, ⟨by (with_reducible repeat (first | refine blk_drewN ?_ _ | refine blk_drew ?_ | refine blk_alloc ?_ _)); exact BK345.out⟩, ⟨by repeat (first | (with_reducible first | exact HB.out | apply below_alloc | apply pw_below_drewN | apply below_drew1 | refine below_set ?_ GE345.out) | exact HB.out)⟩⟩
          · rw [if_neg c9] at H
            have c9b0 : ((bt a0 a1) == 119) = false := beq_eq_false_iff_ne.mpr c9
            have c9b1 : ((bt a0 a1) != 119) = true := bne_iff_ne.mpr c9
            have H' := Aside0.mk H
            clear H
            have p8 : 0 ≤ (a1 : Int) := of_decide_eq_true (by first | (with_reducible assumption) | assumption)
            have q8 : a1 < (a0.size : Int) := of_decide_eq_true (by first | (with_reducible assumption) | assumption)
            have hx8 := bt_at a0 a1
            replace p8 := eq_true p8
            replace q8 := eq_true q8
            have p10 : 0 ≤ (a1 : Int) := of_decide_eq_true (by first | (with_reducible assumption) | assumption)
            have q10 : a1 < (a0.size : Int) := of_decide_eq_true (by first | (with_reducible assumption) | assumption)
            have hx10 := bt_at a0 a1
            replace p10 := eq_true p10
            replace q10 := eq_true q10
            go_wp2
            go_meet
            case rel => exact ⟨_, (((bt a0 a1) != 114)), (by first | rfl | (simp; done) | (simp [*]; done)), H', ⟨by first | omega | exact Nat.le_refl _⟩, ⟨by (with_reducible repeat (first | refine blk_drewN ?_ _ | refine blk_drew ?_ | refine blk_alloc ?_ _)); exact BK345.out⟩, ⟨by repeat (first | (with_reducible first | exact HB.out | apply below_alloc | apply pw_below_drewN | apply below_drew1 | refine below_set ?_ GE345.out) | exact HB.out)⟩⟩
        · rw [if_neg c7] at H
          exact absurd H (by simp)
      · rw [if_neg c6] at H
        exact absurd H (by simp)
  case rest =>
    clear HC3
    try clear p1
    try clear q1
    try clear hx1
    try clear p2
    try clear c5
    try clear c5b0
    try clear c6
    try clear c6b0
    try clear c7
    try clear c7b0
    try clear p8
    try clear q8
    try clear hx8
    try clear c9
    try clear c9b0
    try clear c9b1
    try clear p10
    try clear q10
    try clear hx10
    try clear p10
    try clear p8
    try clear q10
    try clear q8
    obtain ⟨kq, x27_2, rfl, HA, HJ2, BK345, HB⟩ := hcut
    cases kq with
    | zero => exact absurd HA.out (by simp [eyewitnessref07_one.j0])
    | succ kj2 =>
      have H := HA.out
      clear HA
      simp only [eyewitnessref07_one.j0] at H
      by_cases c11 : x27_2 = true
      · subst c11
        have H1 : (some (false, (⟨#[]⟩ : ByteArray), 0, a1, 2)) = some (r1, r2, r3, r4, r5) := by rw [if_pos rfl] at H; exact H
        clear H
        have H := H1
        clear H1
        simp only [Option.some.injEq, Prod.mk.injEq] at H
        obtain ⟨rfl, rfl, rfl, rfl, rfl⟩ := H
        have hcz12_0 : wc.cell? ⟨gb345, 0, none⟩ = some (.bool false) := (blk_cell BK345.out 0).trans rfl
        have hcz12_1 : wc.cell? ⟨gb345, 1, none⟩ = some (.string (⟨#[]⟩ : ByteArray)) := (blk_cell BK345.out 1).trans rfl
        have hcz12_2 : wc.cell? ⟨gb345, 2, none⟩ = some (.int .i64 0) := (blk_cell BK345.out 2).trans rfl
        have hfz12_0 := blk_frozen BK345.out 0
        have hfz12_1 := blk_frozen BK345.out 1
        have hfz12_2 := blk_frozen BK345.out 2
        go_wp2
        refine bodyPost_ret (results_ctt rfl _ _ gb345 61 #[.bool false, .string (⟨#[]⟩ : ByteArray), .int .i64 0] (0, 0) _ rfl (by (with_reducible repeat (first | refine blk_drewN ?_ _ | refine blk_drew ?_ | refine blk_alloc ?_ _)); refine blk_put (cs := #[.bool false, .string (⟨#[]⟩ : ByteArray), .int .i64 0]) ?_ 2 _ rfl; (with_reducible repeat (first | refine blk_drewN ?_ _ | refine blk_drew ?_ | refine blk_alloc ?_ _)); refine blk_put (cs := #[.bool false, .string (⟨#[]⟩ : ByteArray), .int .i64 0]) ?_ 1 _ rfl; (with_reducible repeat (first | refine blk_drewN ?_ _ | refine blk_drew ?_ | refine blk_alloc ?_ _)); refine blk_put (cs := #[.bool false, .string (⟨#[]⟩ : ByteArray), .int .i64 0]) ?_ 0 _ rfl; (with_reducible repeat (first | refine blk_drewN ?_ _ | refine blk_drew ?_ | refine blk_alloc ?_ _)); exact BK345.out) Tryd.underlying61 rfl (by kernel_rfl)) rfl ?_
        exact ⟨by first | rfl | (simp [errW_none, errW_some] <;> rfl) | (simp [*, errW_none, errW_some] <;> rfl), by repeat (first | (with_reducible first | exact HB.out | apply below_alloc | apply pw_below_drewN | apply below_drew1 | refine below_set ?_ GE345.out) | exact HB.out)⟩
      · replace c11 := Bool.eq_false_iff.mpr c11
        subst c11
        have H1 : (if 0 ≤ a1 then (if a1 < (a0.size : Int) then (if (wrap64 (a1 + 1)) ≥ (a0.size : Int) then (eyewitnessref07_one.j1 kj2 a0 (wrap64 (a1 + 1)) true ((bt a0 a1) == 119) (⟨#[]⟩ : ByteArray) 0) else (if 0 ≤ (wrap64 (a1 + 1)) then (if (wrap64 (a1 + 1)) < (a0.size : Int) then (eyewitnessref07_one.j1 kj2 a0 (wrap64 (a1 + 1)) ((bt a0 (wrap64 (a1 + 1))) != 58) ((bt a0 a1) == 119) (⟨#[]⟩ : ByteArray) 0) else (none)) else (none))) else (none)) else (none)) = some (r1, r2, r3, r4, r5) := by rw [if_neg (show ¬ (false = true) by decide)] at H; exact H
        clear H
        have H := H1
        clear H1
        by_cases c13 : 0 ≤ a1
        · rw [if_pos c13] at H
          have c13b0 : decide (0 ≤ a1) = true := decide_eq_true c13
          clear c13
          by_cases c14 : a1 < (a0.size : Int)
          · rw [if_pos c14] at H
            have c14b0 : decide (a1 < (a0.size : Int)) = true := decide_eq_true c14
            clear c14
            have HC16 := Aside0.mk H
            clear H
            have p15 : 0 ≤ (a1 : Int) := of_decide_eq_true (by first | (with_reducible assumption) | assumption)
            have q15 : a1 < (a0.size : Int) := of_decide_eq_true (by first | (with_reducible assumption) | assumption)
            have hx15 := bt_at a0 a1
            replace p15 := eq_true p15
            replace q15 := eq_true q15
            go_upto_region 5 with (first | ((with_reducible refine gate_dst (N := 7) rfl ?_); (try (refine gate_guard (by rfl) ?_; dsimp only)); refine box_event ?hg (N := 7) ?hd (cs := #[.bool false, .string (⟨#[]⟩ : ByteArray), .int .i64 0]) (t := 61) ?hr ?_; (case hd => rfl); (case hg => rfl); (case hr => first | (go_simp; done) | (go_simp; rfl)); intro gb346 hg w17 hbox hb; have n0_ := Aside0.mk (blk_below (g := gb345) (o := .cells #[.bool false, .string (⟨#[]⟩ : ByteArray), .int .i64 0] 61 (0, 0)) (by (with_reducible repeat (first | refine blk_drewN ?_ _ | refine blk_drew ?_ | refine blk_alloc ?_ _)); exact BK345.out) hb); have n1_ := Aside0.mk (below_step (by repeat (first | (with_reducible first | exact HB.out | apply below_alloc | apply pw_below_drewN | apply below_drew1 | refine below_set ?_ GE345.out) | exact HB.out)) hb); have n2_ := Aside0.mk (hbox); have n3_ := Aside0.mk ((by rw [hg]; exact (below_size (by repeat (first | (with_reducible first | exact HB.out | apply below_alloc | apply pw_below_drewN | apply below_drew1 | refine below_set ?_ GE345.out) | exact HB.out))) : w.heap.size ≤ gb346)); have n4_ := Aside0.mk ((by rw [hg]; exact (below_size (by repeat (first | (with_reducible first | exact HB.out | apply below_alloc | apply pw_below_drewN | apply below_drew1 | refine below_set ?_ GE345.out) | exact HB.out))) : w.heap.size ≤ gb346)); have n5_ := Aside0.mk ((by rw [hg]; exact Nat.ne_of_lt (blk_lt (g := gb345) (o := .cells #[.bool false, .string (⟨#[]⟩ : ByteArray), .int .i64 0] 61 (0, 0)) (by (with_reducible repeat (first | refine blk_drewN ?_ _ | refine blk_drew ?_ | refine blk_alloc ?_ _)); exact BK345.out)) : gb345 ≠ gb346)); have n6_ := Aside0.mk ((by rw [hg]; exact Nat.ne_of_gt (blk_lt (g := gb345) (o := .cells #[.bool false, .string (⟨#[]⟩ : ByteArray), .int .i64 0] 61 (0, 0)) (by (with_reducible repeat (first | refine blk_drewN ?_ _ | refine blk_drew ?_ | refine blk_alloc ?_ _)); exact BK345.out)) : gb346 ≠ gb345)); clear BK345; clear HB; have BK345 := n0_; have HB := n1_; have BK346 := n2_; have GW346 := n3_; have GE346 := n4_; have NB345_346 := n5_; have NB346_345 := n6_; clear n0_ n1_ n2_ n3_ n4_ n5_ n6_; clear hb hbox hg; have hnb18 := NB346_345.out; have hnc18 := NB345_346.out; have hcz19_0 : w17.cell? ⟨gb346, 0, none⟩ = some (.bool false) := (blk_cell BK346.out 0).trans rfl; have hcz19_1 : w17.cell? ⟨gb346, 1, none⟩ = some (.string (⟨#[]⟩ : ByteArray)) := (blk_cell BK346.out 1).trans rfl; have hcz19_2 : w17.cell? ⟨gb346, 2, none⟩ = some (.int .i64 0) := (blk_cell BK346.out 2).trans rfl; have hfz19_0 := blk_frozen BK346.out 0; have hfz19_1 := blk_frozen BK346.out 1; have hfz19_2 := blk_frozen BK346.out 2))
            (try simp only [Act.put, List.setIfInBounds_toArray, List.set_cons_zero, List.set_cons_succ])
            go_cut [46] (fun v46 wc => ∃ (kq : Nat) (x46_15 : Bool), v46 = .bool x46_15 ∧ Aside0 (eyewitnessref07_one.j1 kq a0 (wrap64 (a1 + 1)) x46_15 ((bt a0 a1) == 119) (⟨#[]⟩ : ByteArray) 0 = some (r1, r2, r3, r4, r5)) ∧ Aside0 (kq ≤ kj2) ∧ Aside0 (wc.heap[gb345]? = some (.cells #[.bool false, .string (⟨#[]⟩ : ByteArray), .int .i64 0] 61 (0, 0))) ∧ Aside0 (wc.heap[gb346]? = some (.cells #[.bool ((bt a0 a1) == 119), .string (⟨#[]⟩ : ByteArray), .int .i64 0] 61 (0, 0))) ∧ Aside0 (Below w.heap.size w wc))
            case first =>
              have H := HC16.out
              clear HC16
              by_cases c20 : (wrap64 (a1 + 1)) ≥ (a0.size : Int)
              · rw [if_pos c20] at H
                have c20b0 : decide ((a0.size : Int) ≤ (wrap64 (a1 + 1))) = true := decide_eq_true c20
                clear c20
                (first | rw [c20b0] | rw [c20b1] | (simp only [i64_w, i32_w]; rw [c20b0]) | skip)
                have H' := Aside0.mk H
                clear H
                go_wp2
                go_meet
                case rel => exact ⟨_, (true), (by first | rfl | (simp; done) | (simp [*]; done)), H', ⟨by have := HJ2.out; first | omega | exact Nat.le_refl _⟩, ⟨by (with_reducible repeat (first | refine blk_drewN ?_ _ | refine blk_drew ?_ | refine blk_alloc ?_ _)); refine blk_far ?_ NB345_346.out _; (with_reducible repeat (first | refine blk_drewN ?_ _ | refine blk_drew ?_ | refine blk_alloc ?_ _)); refine blk_far ?_ NB345_346.out _; (with_reducible repeat (first | refine blk_drewN ?_ _ | refine blk_drew ?_ | refine blk_alloc ?_ _)); refine blk_far ?_ NB345_346.out _; (with_reducible repeat (first | refine blk_drewN ?_ _ | refine blk_drew ?_ | refine blk_alloc ?_ _)); exact BK345.out⟩, ⟨by (with_reducible repeat (first | refine blk_drewN ?_ _ | refine blk_drew ?_ | refine blk_alloc ?_ _)); refine blk_put (cs := #[.bool ((bt a0 a1) == 119), .string (⟨#[]⟩ : ByteArray), .int .i64 0]) ?_ 2 _ rfl; (with_reducible repeat (first | refine blk_drewN ?_ _ | refine blk_drew ?_ | refine blk_alloc ?_ _)); refine blk_put (cs := #[.bool ((bt a0 a1) == 119), .string (⟨#[]⟩ : ByteArray), .int .i64 0]) ?_ 1 _ rfl; (with_reducible repeat (first | refine blk_drewN ?_ _ | refine blk_drew ?_ | refine blk_alloc ?_ _)); refine blk_put (cs := #[.bool false, .string (⟨#[]⟩ : ByteArray), .int .i64 0]) ?_ 0 _ rfl; (with_reducible repeat (first | refine blk_drewN ?_ _ | refine blk_drew ?_ | refine blk_alloc ?_ _)); exact BK346.out⟩, ⟨by repeat (first | (with_reducible first | exact HB.out | apply below_alloc | apply pw_below_drewN | apply below_drew1 | refine below_set ?_ GE345.out | refine below_set ?_ GE346.out) | exact HB.out)⟩⟩
              · rw [if_neg c20] at H
                have c20b0 : decide ((a0.size : Int) ≤ (wrap64 (a1 + 1))) = false := decide_eq_false c20
                clear c20
                (first | rw [c20b0] | rw [c20b1] | (simp only [i64_w, i32_w]; rw [c20b0]) | skip)
                obtain ⟨ji21, hji21⟩ : ∃ j_ : Int, (wrap64 (a1 + 1)) = j_ := ⟨_, rfl⟩
                replace H : (if 0 ≤ (ji21) then (if (ji21) < (a0.size : Int) then (eyewitnessref07_one.j1 kj2 a0 ji21 ((bt a0 (ji21)) != 58) ((bt a0 a1) == 119) (⟨#[]⟩ : ByteArray) 0) else (none)) else (none)) = some (r1, r2, r3, r4, r5) := by first | (rw [hji21] at H; exact H) | (simp only [hji21] at H ⊢; exact H)
                (try rw [hji21] at c20b0)
                have hji21w : (IntKind.i64.wrap (a1 + 1)) = ji21 := (i64_w _).trans hji21
                by_cases c22 : 0 ≤ (ji21)
                · rw [if_pos c22] at H
                  have c22b0 : decide (0 ≤ (ji21)) = true := decide_eq_true c22
                  clear c22
                  by_cases c23 : (ji21) < (a0.size : Int)
                  · rw [if_pos c23] at H
                    have c23b0 : decide ((ji21) < (a0.size : Int)) = true := decide_eq_true c23
                    clear c23
                    have H' := Aside0.mk H
                    clear H
                    have p24 : 0 ≤ ((ji21) : Int) := of_decide_eq_true (by first | (with_reducible assumption) | assumption)
                    have q24 : (ji21) < (a0.size : Int) := of_decide_eq_true (by first | (with_reducible assumption) | assumption)
                    have hx24 := bt_at a0 (ji21)
                    replace p24 := eq_true p24
                    replace q24 := eq_true q24
                    go_wp2
                    go_meet
                    case rel => exact ⟨_, (((bt a0 (ji21)) != 58)), (by first | rfl | (simp; done) | (simp only [← hji21] <;> (first | rfl | simp)) | (simp [*]; done)), (by first | exact H' | (simp only [hji21]; exact H')), ⟨by have := HJ2.out; first | omega | exact Nat.le_refl _⟩, ⟨by (with_reducible repeat (first | refine blk_drewN ?_ _ | refine blk_drew ?_ | refine blk_alloc ?_ _)); refine blk_far ?_ NB345_346.out _; (with_reducible repeat (first | refine blk_drewN ?_ _ | refine blk_drew ?_ | refine blk_alloc ?_ _)); refine blk_far ?_ NB345_346.out _; (with_reducible repeat (first | refine blk_drewN ?_ _ | refine blk_drew ?_ | refine blk_alloc ?_ _)); refine blk_far ?_ NB345_346.out _; (with_reducible repeat (first | refine blk_drewN ?_ _ | refine blk_drew ?_ | refine blk_alloc ?_ _)); exact BK345.out⟩, ⟨by (with_reducible repeat (first | refine blk_drewN ?_ _ | refine blk_drew ?_ | refine blk_alloc ?_ _)); refine blk_put (cs := #[.bool ((bt a0 a1) == 119), .string (⟨#[]⟩ : ByteArray), .int .i64 0]) ?_ 2 _ (by first | rfl | (simp only [hji21]; rfl) | (simp only [← hji21]; rfl) | (simp only [← hji21]; simp)); (with_reducible repeat (first | refine blk_drewN ?_ _ | refine blk_drew ?_ | refine blk_alloc ?_ _)); refine blk_put (cs := #[.bool ((bt a0 a1) == 119), .string (⟨#[]⟩ : ByteArray), .int .i64 0]) ?_ 1 _ (by first | rfl | (simp only [hji21]; rfl) | (simp only [← hji21]; rfl) | (simp only [← hji21]; simp)); (with_reducible repeat (first | refine blk_drewN ?_ _ | refine blk_drew ?_ | refine blk_alloc ?_ _)); refine blk_put (cs := #[.bool false, .string (⟨#[]⟩ : ByteArray), .int .i64 0]) ?_ 0 _ (by first | rfl | (simp only [hji21]; rfl) | (simp only [← hji21]; rfl) | (simp only [← hji21]; simp)); (with_reducible repeat (first | refine blk_drewN ?_ _ | refine blk_drew ?_ | refine blk_alloc ?_ _)); exact BK346.out⟩, ⟨by repeat (first | (with_reducible first | exact HB.out | apply below_alloc | apply pw_below_drewN | apply below_drew1 | refine below_set ?_ GE345.out | refine below_set ?_ GE346.out) | exact HB.out)⟩⟩
                  · rw [if_neg c23] at H
                    exact absurd H (by simp)
                · rw [if_neg c22] at H
                  exact absurd H (by simp)
            case rest =>
              clear HC16
              try clear c1
              try clear p1
              try clear q1
              try clear hx1
              try clear c2
              try clear p2
              try clear q2
              try clear hx2
              try clear c5
              try clear c5b0
              try clear c6
              try clear c6b0
              try clear p6
              try clear c7
              try clear c7b0
              try clear p8
              try clear q8
              try clear hx8
              try clear c9
              try clear c9b0
              try clear c9b1
              try clear p10
              try clear q10
              try clear hx10
              try clear c11
              try clear c13
              try clear c13b0
              try clear c14
              try clear c14b0
              try clear p15
              try clear q15
              try clear hx15
              try clear c18
              try clear c20
              try clear c20b0
              try clear c22
              try clear c22b0
              try clear c23
              try clear c23b0
              try clear p24
              try clear q24
              try clear hx24
              try clear hcz12_0
              try clear hcz12_1
              try clear hcz12_2
              try clear hcz19_0
              try clear hcz19_1
              try clear hcz19_2
              try clear hfz12_0
              try clear hfz12_1
              try clear hfz12_2
              try clear hfz19_0
              try clear hfz19_1
              try clear hfz19_2
              try clear p1
              try clear p10
              try clear p15
              try clear p2
              try clear p24
              try clear p8
              try clear q1
              try clear q10
              try clear q15
              try clear q24
              try clear q8
              obtain ⟨kq, x46_15, rfl, HA, HJ15, BK345, BK346, HB⟩ := hcut
              cases kq with
              | zero => exact absurd HA.out (by simp [eyewitnessref07_one.j1])
              | succ kj15 =>
                have H := HA.out
                clear HA
                simp only [eyewitnessref07_one.j1] at H
                by_cases c25 : x46_15 = true
                · subst c25
                  have H1 : (some (false, (⟨#[]⟩ : ByteArray), 0, (wrap64 (a1 + 1)), 2)) = some (r1, r2, r3, r4, r5) := by rw [if_pos rfl] at H; exact H
                  clear H
                  have H := H1
                  clear H1
                  simp only [Option.some.injEq, Prod.mk.injEq] at H
                  obtain ⟨rfl, rfl, rfl, rfl, rfl⟩ := H
                  have hnb26 := NB345_346.out
                  have hnc26 := NB346_345.out
                  have hcz27_0 : wc.cell? ⟨gb345, 0, none⟩ = some (.bool false) := (blk_cell BK345.out 0).trans rfl
                  have hcz27_1 : wc.cell? ⟨gb345, 1, none⟩ = some (.string (⟨#[]⟩ : ByteArray)) := (blk_cell BK345.out 1).trans rfl
                  have hcz27_2 : wc.cell? ⟨gb345, 2, none⟩ = some (.int .i64 0) := (blk_cell BK345.out 2).trans rfl
                  have hfz27_0 := blk_frozen BK345.out 0
                  have hfz27_1 := blk_frozen BK345.out 1
                  have hfz27_2 := blk_frozen BK345.out 2
                  go_wp2
                  refine bodyPost_ret (results_ctt rfl _ _ gb345 61 #[.bool false, .string (⟨#[]⟩ : ByteArray), .int .i64 0] (0, 0) _ rfl (by (with_reducible repeat (first | refine blk_drewN ?_ _ | refine blk_drew ?_ | refine blk_alloc ?_ _)); refine blk_put (cs := #[.bool false, .string (⟨#[]⟩ : ByteArray), .int .i64 0]) ?_ 2 _ rfl; (with_reducible repeat (first | refine blk_drewN ?_ _ | refine blk_drew ?_ | refine blk_alloc ?_ _)); refine blk_put (cs := #[.bool false, .string (⟨#[]⟩ : ByteArray), .int .i64 0]) ?_ 1 _ rfl; (with_reducible repeat (first | refine blk_drewN ?_ _ | refine blk_drew ?_ | refine blk_alloc ?_ _)); refine blk_put (cs := #[.bool false, .string (⟨#[]⟩ : ByteArray), .int .i64 0]) ?_ 0 _ rfl; (with_reducible repeat (first | refine blk_drewN ?_ _ | refine blk_drew ?_ | refine blk_alloc ?_ _)); exact BK345.out) Tryd.underlying61 rfl (by kernel_rfl)) rfl ?_
                  exact ⟨by first | rfl | (simp [errW_none, errW_some] <;> rfl) | (simp [*, errW_none, errW_some] <;> rfl), by repeat (first | (with_reducible first | exact HB.out | apply below_alloc | apply pw_below_drewN | apply below_drew1 | refine below_set ?_ GE345.out | refine below_set ?_ GE346.out) | exact HB.out)⟩
                · replace c25 := Bool.eq_false_iff.mpr c25
                  subst c25
                  have H1 : (eyewitnessref07_one.l0 kj15 a0 (wrap64 ((wrap64 (a1 + 1)) + 1)) 0 ((bt a0 a1) == 119) (⟨#[]⟩ : ByteArray) 0) = some (r1, r2, r3, r4, r5) := by rw [if_neg (show ¬ (false = true) by decide)] at H; exact H
                  clear H
                  have H := H1
                  clear H1
                  have HC28 := Aside0.mk H
                  clear H
                  go_upto_block 0 with (fail)
                  go_cut [8] (fun v8 wc => ∃ (kq : Nat) (x8_27 : Int), v8 = .int .i64 x8_27 ∧ Aside0 (eyewitnessref07_one.j3 kq a0 (wrap64 ((wrap64 (a1 + 1)) + 1)) x8_27 ((bt a0 a1) == 119) (⟨#[]⟩ : ByteArray) 0 = some (r1, r2, r3, r4, r5)) ∧ Aside0 (kq ≤ kj15) ∧ Aside0 (wc.heap[gb345]? = some (.cells #[.bool false, .string (⟨#[]⟩ : ByteArray), .int .i64 0] 61 (0, 0))) ∧ Aside0 (wc.heap[gb346]? = some (.cells #[.bool ((bt a0 a1) == 119), .string (⟨#[]⟩ : ByteArray), .int .i64 0] 61 (0, 0))) ∧ Aside0 (Below w.heap.size w wc))
                  case first =>
                    have H := HC28.out
                    clear HC28
                    have H' := Aside0.mk H
                    clear H
                    go_wp2
                    go_loopg [8] kj15 (fun kq v8 w' => ∃ (x8_3 : Int), v8 = .int .i64 x8_3 ∧ Aside0 (eyewitnessref07_one.l0 kq a0 (wrap64 ((wrap64 (a1 + 1)) + 1)) x8_3 ((bt a0 a1) == 119) (⟨#[]⟩ : ByteArray) 0 = some (r1, r2, r3, r4, r5)) ∧ Aside0 (kq ≤ kj15) ∧ Aside0 (w'.heap[gb345]? = some (.cells #[.bool false, .string (⟨#[]⟩ : ByteArray), .int .i64 0] 61 (0, 0))) ∧ Aside0 (w'.heap[gb346]? = some (.cells #[.bool ((bt a0 a1) == 119), .string (⟨#[]⟩ : ByteArray), .int .i64 0] 61 (0, 0))) ∧ Aside0 (Below w.heap.size w w'))
                    case atStart => exact ⟨(0), (by first | rfl | (simp; done) | (simp [*]; done)), H', ⟨Nat.le_refl _⟩, ⟨by (with_reducible repeat (first | refine blk_drewN ?_ _ | refine blk_drew ?_ | refine blk_alloc ?_ _)); exact BK345.out⟩, ⟨by (with_reducible repeat (first | refine blk_drewN ?_ _ | refine blk_drew ?_ | refine blk_alloc ?_ _)); exact BK346.out⟩, ⟨by repeat (first | (with_reducible first | exact HB.out | apply below_alloc | apply pw_below_drewN | apply below_drew1 | refine below_set ?_ GE345.out | refine below_set ?_ GE346.out) | exact HB.out)⟩⟩
                    case round =>
                      clear H'
                      try clear c1
                      try clear p1
                      try clear q1
                      try clear hx1
                      try clear c2
                      try clear p2
                      try clear q2
                      try clear hx2
                      try clear c5
                      try clear c5b0
                      try clear c6
                      try clear c6b0
                      try clear p6
                      try clear c7
                      try clear c7b0
                      try clear p8
                      try clear q8
                      try clear hx8
                      try clear c9
                      try clear c9b0
                      try clear c9b1
                      try clear p10
                      try clear q10
                      try clear hx10
                      try clear c11
                      try clear c13
                      try clear c13b0
                      try clear c14
                      try clear c14b0
                      try clear p15
                      try clear q15
                      try clear hx15
                      try clear c18
                      try clear c20
                      try clear c20b0
                      try clear c22
                      try clear c22b0
                      try clear c23
                      try clear c23b0
                      try clear p24
                      try clear q24
                      try clear hx24
                      try clear c25
                      try clear c26
                      try clear hcz12_0
                      try clear hcz12_1
                      try clear hcz12_2
                      try clear hcz19_0
                      try clear hcz19_1
                      try clear hcz19_2
                      try clear hcz27_0
                      try clear hcz27_1
                      try clear hcz27_2
                      try clear hfz12_0
                      try clear hfz12_1
                      try clear hfz12_2
                      try clear hfz19_0
                      try clear hfz19_1
                      try clear hfz19_2
                      try clear hfz27_0
                      try clear hfz27_1
                      try clear hfz27_2
                      try clear p1
                      try clear p10
                      try clear p15
                      try clear p2
                      try clear p24
                      try clear p6
                      try clear p8
                      try clear q1
                      try clear q10
                      try clear q15
                      try clear q2
                      try clear q24
                      try clear q8
                      obtain ⟨x8_3, rfl, HA, HK3, BK345, BK346, HB⟩ := hrel
                      cases gk with
                      | zero => exact absurd HA.out (by simp [eyewitnessref07_one.l0])
                      | succ k3 =>
                        have H := HA.out
                        clear HA
                        simp only [eyewitnessref07_one.l0] at H
                        by_cases c29 : x8_3 < 8
                        · rw [if_pos c29] at H
                          have c29b0 : decide (x8_3 < 8) = true := decide_eq_true c29
                          clear c29
                          (first | rw [c29b0] | rw [c29b1] | (simp only [i64_w, i32_w]; rw [c29b0]) | skip)
                          by_cases c30 : (wrap64 ((wrap64 ((wrap64 (a1 + 1)) + 1)) + x8_3)) < (a0.size : Int)
                          · rw [if_pos c30] at H
                            have c30b0 : decide ((wrap64 ((wrap64 ((wrap64 (a1 + 1)) + 1)) + x8_3)) < (a0.size : Int)) = true := decide_eq_true c30
                            clear c30
                            obtain ⟨ji31, hji31⟩ : ∃ j_ : Int, (wrap64 ((wrap64 ((wrap64 (a1 + 1)) + 1)) + x8_3)) = j_ := ⟨_, rfl⟩
                            replace H : (if 0 ≤ (ji31) then (if (bt a0 (ji31)) ≥ 97 then (if (bt a0 (ji31)) ≤ 122 then (eyewitnessref07_one.l0 k3 a0 (wrap64 ((wrap64 (a1 + 1)) + 1)) (wrap64 (x8_3 + 1)) ((bt a0 a1) == 119) (⟨#[]⟩ : ByteArray) 0) else (eyewitnessref07_one.j3 k3 a0 (wrap64 ((wrap64 (a1 + 1)) + 1)) x8_3 ((bt a0 a1) == 119) (⟨#[]⟩ : ByteArray) 0)) else (eyewitnessref07_one.j3 k3 a0 (wrap64 ((wrap64 (a1 + 1)) + 1)) x8_3 ((bt a0 a1) == 119) (⟨#[]⟩ : ByteArray) 0)) else (none)) = some (r1, r2, r3, r4, r5) := by first | (rw [hji31] at H; exact H) | (simp only [hji31] at H ⊢; exact H)
                            (try rw [hji31] at c30b0)
                            have hji31w : (IntKind.i64.wrap ((wrap64 ((wrap64 (a1 + 1)) + 1)) + x8_3)) = ji31 := (i64_w _).trans hji31
                            by_cases c32 : 0 ≤ (ji31)
                            · rw [if_pos c32] at H
                              have c32b0 : decide (0 ≤ (ji31)) = true := decide_eq_true c32
                              clear c32
                              by_cases c34 : (bt a0 (ji31)) ≥ 97
                              · rw [if_pos c34] at H
                                have c34b0 : decide (97 ≤ (bt a0 (ji31))) = true := decide_eq_true c34
                                clear c34
                                by_cases c36 : (bt a0 (ji31)) ≤ 122
                                · rw [if_pos c36] at H
                                  have c36b0 : decide ((bt a0 (ji31)) ≤ 122) = true := decide_eq_true c36
                                  clear c36
                                  have H' := Aside0.mk H
                                  clear H
                                  have p33 : 0 ≤ ((ji31) : Int) := of_decide_eq_true (by first | (with_reducible assumption) | assumption)
                                  have q33 : (ji31) < (a0.size : Int) := of_decide_eq_true (by first | (with_reducible assumption) | assumption)
                                  have hx33 := bt_at a0 (ji31)
                                  replace p33 := eq_true p33
                                  replace q33 := eq_true q33
                                  have p35 : 0 ≤ ((ji31) : Int) := of_decide_eq_true (by first | (with_reducible assumption) | assumption)
                                  have q35 : (ji31) < (a0.size : Int) := of_decide_eq_true (by first | (with_reducible assumption) | assumption)
                                  have hx35 := bt_at a0 (ji31)
                                  replace p35 := eq_true p35
                                  replace q35 := eq_true q35
                                  go_wp2
                                  go_roundg k3
                                  case measure => have := HJ2.out; have := HJ15.out; have := HK3.out; omega
                                  case rel => exact ⟨(wrap64 (x8_3 + 1)), (by first | rfl | (simp; done) | (simp [*]; done)), H', ⟨by have := HJ2.out; have := HJ15.out; have := HK3.out; omega⟩, ⟨by (with_reducible repeat (first | refine blk_drewN ?_ _ | refine blk_drew ?_ | refine blk_alloc ?_ _)); exact BK345.out⟩, ⟨by (with_reducible repeat (first | refine blk_drewN ?_ _ | refine blk_drew ?_ | refine blk_alloc ?_ _)); exact BK346.out⟩, ⟨by repeat (first | (with_reducible first | exact HB.out | apply below_alloc | apply pw_below_drewN | apply below_drew1 | refine below_set ?_ GE345.out | refine below_set ?_ GE346.out) | exact HB.out)⟩⟩
                                · rw [if_neg c36] at H
                                  have c36b0 : decide ((bt a0 (ji31)) ≤ 122) = false := decide_eq_false c36
                                  clear c36
                                  have H' := Aside0.mk H
                                  clear H
                                  have p33 : 0 ≤ ((ji31) : Int) := of_decide_eq_true (by first | (with_reducible assumption) | assumption)
                                  have q33 : (ji31) < (a0.size : Int) := of_decide_eq_true (by first | (with_reducible assumption) | assumption)
                                  have hx33 := bt_at a0 (ji31)
                                  replace p33 := eq_true p33
                                  replace q33 := eq_true q33
                                  have p35 : 0 ≤ ((ji31) : Int) := of_decide_eq_true (by first | (with_reducible assumption) | assumption)
                                  have q35 : (ji31) < (a0.size : Int) := of_decide_eq_true (by first | (with_reducible assumption) | assumption)
                                  have hx35 := bt_at a0 (ji31)
                                  replace p35 := eq_true p35
                                  replace q35 := eq_true q35
                                  go_wp2
                                  go_meet
                                  case rel => exact ⟨_, (x8_3), (by first | rfl | (simp; done) | (simp [*]; done)), H', ⟨by have := HJ2.out; have := HJ15.out; have := HK3.out; first | omega | exact Nat.le_refl _⟩, ⟨by (with_reducible repeat (first | refine blk_drewN ?_ _ | refine blk_drew ?_ | refine blk_alloc ?_ _)); exact BK345.out⟩, ⟨by (with_reducible repeat (first | refine blk_drewN ?_ _ | refine blk_drew ?_ | refine blk_alloc ?_ _)); exact BK346.out⟩, ⟨by repeat (first | (with_reducible first | exact HB.out | apply below_alloc | apply pw_below_drewN | apply below_drew1 | refine below_set ?_ GE345.out | refine below_set ?_ GE346.out) | exact HB.out)⟩⟩
                              · rw [if_neg c34] at H
                                have c34b0 : decide (97 ≤ (bt a0 (ji31))) = false := decide_eq_false c34
                                clear c34
                                have H' := Aside0.mk H
                                clear H
                                have p33 : 0 ≤ ((ji31) : Int) := of_decide_eq_true (by first | (with_reducible assumption) | assumption)
                                have q33 : (ji31) < (a0.size : Int) := of_decide_eq_true (by first | (with_reducible assumption) | assumption)
                                have hx33 := bt_at a0 (ji31)
                                replace p33 := eq_true p33
                                replace q33 := eq_true q33
                                go_wp2
                                go_meet
                                case rel => exact ⟨_, (x8_3), (by first | rfl | (simp; done) | (simp [*]; done)), H', ⟨by have := HJ2.out; have := HJ15.out; have := HK3.out; first | omega | exact Nat.le_refl _⟩, ⟨by (with_reducible repeat (first | refine blk_drewN ?_ _ | refine blk_drew ?_ | refine blk_alloc ?_ _)); exact BK345.out⟩, ⟨by (with_reducible repeat (first | refine blk_drewN ?_ _ | refine blk_drew ?_ | refine blk_alloc ?_ _)); exact BK346.out⟩, ⟨by repeat (first | (with_reducible first | exact HB.out | apply below_alloc | apply pw_below_drewN | apply below_drew1 | refine below_set ?_ GE345.out | refine below_set ?_ GE346.out) | exact HB.out)⟩⟩
                            · rw [if_neg c32] at H
                              exact absurd H (by simp)
                          · rw [if_neg c30] at H
                            have c30b0 : decide ((wrap64 ((wrap64 ((wrap64 (a1 + 1)) + 1)) + x8_3)) < (a0.size : Int)) = false := decide_eq_false c30
                            clear c30
                            have H' := Aside0.mk H
                            clear H
                            go_wp2
                            go_meet
                            case rel => exact ⟨_, (x8_3), (by first | rfl | (simp; done) | (simp [*]; done)), H', ⟨by have := HJ2.out; have := HJ15.out; have := HK3.out; first | omega | exact Nat.le_refl _⟩, ⟨by (with_reducible repeat (first | refine blk_drewN ?_ _ | refine blk_drew ?_ | refine blk_alloc ?_ _)); exact BK345.out⟩, ⟨by (with_reducible repeat (first | refine blk_drewN ?_ _ | refine blk_drew ?_ | refine blk_alloc ?_ _)); exact BK346.out⟩, ⟨by repeat (first | (with_reducible first | exact HB.out | apply below_alloc | apply pw_below_drewN | apply below_drew1 | refine below_set ?_ GE345.out | refine below_set ?_ GE346.out) | exact HB.out)⟩⟩
                        · rw [if_neg c29] at H
                          have c29b0 : decide (x8_3 < 8) = false := decide_eq_false c29
                          clear c29
                          (first | rw [c29b0] | rw [c29b1] | (simp only [i64_w, i32_w]; rw [c29b0]) | skip)
                          have H' := Aside0.mk H
                          clear H
                          go_wp2
                          go_meet
                          case rel => exact ⟨_, (x8_3), (by first | rfl | (simp; done) | (simp [*]; done)), H', ⟨by have := HJ2.out; have := HJ15.out; have := HK3.out; first | omega | exact Nat.le_refl _⟩, ⟨by (with_reducible repeat (first | refine blk_drewN ?_ _ | refine blk_drew ?_ | refine blk_alloc ?_ _)); exact BK345.out⟩, ⟨by (with_reducible repeat (first | refine blk_drewN ?_ _ | refine blk_drew ?_ | refine blk_alloc ?_ _)); exact BK346.out⟩, ⟨by repeat (first | (with_reducible first | exact HB.out | apply below_alloc | apply pw_below_drewN | apply below_drew1 | refine below_set ?_ GE345.out | refine below_set ?_ GE346.out) | exact HB.out)⟩⟩
                  case rest =>
                    clear HC28
                    try clear c1
                    try clear p1
                    try clear q1
                    try clear hx1
                    try clear c2
                    try clear p2
                    try clear q2
                    try clear hx2
                    try clear c3
                    try clear p3
                    try clear q3
                    try clear hx3
                    try clear c5
                    try clear c5b0
                    try clear c6
                    try clear c6b0
                    try clear p6
                    try clear c7
                    try clear c7b0
                    try clear p8
                    try clear q8
                    try clear hx8
                    try clear c9
                    try clear c9b0
                    try clear c9b1
                    try clear p10
                    try clear q10
                    try clear hx10
                    try clear c11
                    try clear c13
                    try clear c13b0
                    try clear c14
                    try clear c14b0
                    try clear p15
                    try clear q15
                    try clear hx15
                    try clear c18
                    try clear c20
                    try clear c20b0
                    try clear c22
                    try clear c22b0
                    try clear c23
                    try clear c23b0
                    try clear p24
                    try clear q24
                    try clear hx24
                    try clear c25
                    try clear c26
                    try clear c29
                    try clear c29b0
                    try clear c30
                    try clear c30b0
                    try clear c32
                    try clear c32b0
                    try clear p33
                    try clear q33
                    try clear hx33
                    try clear c34
                    try clear c34b0
                    try clear p35
                    try clear q35
                    try clear hx35
                    try clear c36
                    try clear c36b0
                    try clear hcz12_0
                    try clear hcz12_1
                    try clear hcz12_2
                    try clear hcz19_0
                    try clear hcz19_1
                    try clear hcz19_2
                    try clear hcz27_0
                    try clear hcz27_1
                    try clear hcz27_2
                    try clear hfz12_0
                    try clear hfz12_1
                    try clear hfz12_2
                    try clear hfz19_0
                    try clear hfz19_1
                    try clear hfz19_2
                    try clear hfz27_0
                    try clear hfz27_1
                    try clear hfz27_2
                    try clear p1
                    try clear p10
                    try clear p15
                    try clear p2
                    try clear p24
                    try clear p33
                    try clear p35
                    try clear p6
                    try clear p8
                    try clear q1
                    try clear q10
                    try clear q15
                    try clear q2
                    try clear q24
                    try clear q33
                    try clear q35
                    try clear q8
                    obtain ⟨kq, x8_27, rfl, HA, HJ27, BK345, BK346, HB⟩ := hcut
                    cases kq with
                    | zero => exact absurd HA.out (by simp [eyewitnessref07_one.j3])
                    | succ kj27 =>
                      have H := HA.out
                      clear HA
                      simp only [eyewitnessref07_one.j3] at H
                      obtain ⟨ji37, hji37⟩ : ∃ j_ : Int, (wrap64 ((wrap64 (a1 + 1)) + 1)) = j_ := ⟨_, rfl⟩
                      replace H : (if 0 ≤ (ji37) then (if (ji37) ≤ (wrap64 ((ji37) + x8_27)) then (if (wrap64 ((ji37) + x8_27)) ≤ (a0.size : Int) then (if x8_27 = 0 then (eyewitnessref07_one.j4 kj27 a0 (wrap64 ((ji37) + x8_27)) true ((bt a0 a1) == 119) (a0.extract ((ji37) : Int).toNat ((wrap64 ((ji37) + x8_27)) : Int).toNat) 0) else (if (wrap64 ((ji37) + x8_27)) ≥ (a0.size : Int) then (eyewitnessref07_one.j4 kj27 a0 (wrap64 ((ji37) + x8_27)) true ((bt a0 a1) == 119) (a0.extract ((ji37) : Int).toNat ((wrap64 ((ji37) + x8_27)) : Int).toNat) 0) else (if 0 ≤ (wrap64 ((ji37) + x8_27)) then (if (wrap64 ((ji37) + x8_27)) < (a0.size : Int) then (eyewitnessref07_one.j4 kj27 a0 (wrap64 ((ji37) + x8_27)) ((bt a0 (wrap64 ((ji37) + x8_27))) != 61) ((bt a0 a1) == 119) (a0.extract ((ji37) : Int).toNat ((wrap64 ((ji37) + x8_27)) : Int).toNat) 0) else (none)) else (none)))) else (none)) else (none)) else (none)) = some (r1, r2, r3, r4, r5) := by first | (rw [hji37] at H; exact H) | (simp only [hji37] at H ⊢; exact H)
                      have hji37w : (IntKind.i64.wrap ((wrap64 (a1 + 1)) + 1)) = ji37 := (i64_w _).trans hji37
                      by_cases c38 : 0 ≤ (ji37)
                      · rw [if_pos c38] at H
                        have c38b0 := eq_true c38
                        have c38b1 : decide (0 ≤ (ji37)) = true := decide_eq_true c38
                        clear c38
                        by_cases c39 : (ji37) ≤ (wrap64 ((ji37) + x8_27))
                        · rw [if_pos c39] at H
                          have c39b0 := eq_true c39
                          have c39b1 : decide ((ji37) ≤ (wrap64 ((ji37) + x8_27))) = true := decide_eq_true c39
                          by_cases c40 : (wrap64 ((ji37) + x8_27)) ≤ (a0.size : Int)
                          · rw [if_pos c40] at H
                            have c40b0 := eq_true c40
                            have c40b1 : decide ((wrap64 ((ji37) + x8_27)) ≤ (a0.size : Int)) = true := decide_eq_true c40
                            have HC41 := Aside0.mk H
                            clear H
                            have hnb42 := NB346_345.out
                            have hnc42 := NB345_346.out
                            have hcz43_0 : wc.cell? ⟨gb346, 0, none⟩ = some (.bool ((bt a0 a1) == 119)) := (blk_cell BK346.out 0).trans rfl
                            have hcz43_1 : wc.cell? ⟨gb346, 1, none⟩ = some (.string (⟨#[]⟩ : ByteArray)) := (blk_cell BK346.out 1).trans rfl
                            have hcz43_2 : wc.cell? ⟨gb346, 2, none⟩ = some (.int .i64 0) := (blk_cell BK346.out 2).trans rfl
                            have hfz43_0 := blk_frozen BK346.out 0
                            have hfz43_1 := blk_frozen BK346.out 1
                            have hfz43_2 := blk_frozen BK346.out 2
                            go_upto_region 13 with (fail)
                            go_cut [102] (fun v102 wc => ∃ (kq : Nat) (x102_40 : Bool), v102 = .bool x102_40 ∧ Aside0 (eyewitnessref07_one.j4 kq a0 (wrap64 ((ji37) + x8_27)) x102_40 ((bt a0 a1) == 119) (a0.extract ((ji37) : Int).toNat ((wrap64 ((ji37) + x8_27)) : Int).toNat) 0 = some (r1, r2, r3, r4, r5)) ∧ Aside0 (kq ≤ kj27) ∧ Aside0 (wc.heap[gb345]? = some (.cells #[.bool false, .string (⟨#[]⟩ : ByteArray), .int .i64 0] 61 (0, 0))) ∧ Aside0 (wc.heap[gb346]? = some (.cells #[.bool ((bt a0 a1) == 119), .string (a0.extract ((ji37) : Int).toNat ((wrap64 ((ji37) + x8_27)) : Int).toNat), .int .i64 0] 61 (0, 0))) ∧ Aside0 (Below w.heap.size w wc))
                            case first =>
                              have H := HC41.out
                              clear HC41
                              by_cases c44 : x8_27 = 0
                              · rw [if_pos c44] at H
                                have c44b0 : (x8_27 == 0) = true := beq_iff_eq.mpr c44
                                have c44b1 : (x8_27 != 0) = false := bne_eq_false_iff_eq.mpr c44
                                clear c44
                                (first | rw [c44b0] | rw [c44b1] | (simp only [i64_w, i32_w]; rw [c44b0]) | skip)
                                have H' := Aside0.mk H
                                clear H
                                go_wp2
                                go_meet
                                case rel => exact ⟨_, (true), (by first | rfl | (simp; done) | (simp [*]; done)), H', ⟨by have := HJ2.out; have := HJ15.out; have := HJ27.out; first | omega | exact Nat.le_refl _⟩, ⟨by (with_reducible repeat (first | refine blk_drewN ?_ _ | refine blk_drew ?_ | refine blk_alloc ?_ _)); refine blk_far ?_ NB345_346.out _; (with_reducible repeat (first | refine blk_drewN ?_ _ | refine blk_drew ?_ | refine blk_alloc ?_ _)); exact BK345.out⟩, ⟨by (with_reducible repeat (first | refine blk_drewN ?_ _ | refine blk_drew ?_ | refine blk_alloc ?_ _)); refine blk_put (cs := #[.bool ((bt a0 a1) == 119), .string (⟨#[]⟩ : ByteArray), .int .i64 0]) ?_ 1 _ rfl; (with_reducible repeat (first | refine blk_drewN ?_ _ | refine blk_drew ?_ | refine blk_alloc ?_ _)); exact BK346.out⟩, ⟨by repeat (first | (with_reducible first | exact HB.out | apply below_alloc | apply pw_below_drewN | apply below_drew1 | refine below_set ?_ GE345.out | refine below_set ?_ GE346.out) | exact HB.out)⟩⟩
                              · rw [if_neg c44] at H
                                have c44b0 : (x8_27 == 0) = false := beq_eq_false_iff_ne.mpr c44
                                have c44b1 : (x8_27 != 0) = true := bne_iff_ne.mpr c44
                                (first | rw [c44b0] | rw [c44b1] | (simp only [i64_w, i32_w]; rw [c44b0]) | skip)
                                by_cases c45 : (wrap64 ((ji37) + x8_27)) ≥ (a0.size : Int)
                                · rw [if_pos c45] at H
                                  have c45b0 : decide ((a0.size : Int) ≤ (wrap64 ((ji37) + x8_27))) = true := decide_eq_true c45
                                  clear c45
                                  have H' := Aside0.mk H
                                  clear H
                                  go_wp2
                                  go_meet
                                  case rel => exact ⟨_, (true), (by first | rfl | (simp; done) | (simp [*]; done)), H', ⟨by have := HJ2.out; have := HJ15.out; have := HJ27.out; first | omega | exact Nat.le_refl _⟩, ⟨by (with_reducible repeat (first | refine blk_drewN ?_ _ | refine blk_drew ?_ | refine blk_alloc ?_ _)); refine blk_far ?_ NB345_346.out _; (with_reducible repeat (first | refine blk_drewN ?_ _ | refine blk_drew ?_ | refine blk_alloc ?_ _)); exact BK345.out⟩, ⟨by (with_reducible repeat (first | refine blk_drewN ?_ _ | refine blk_drew ?_ | refine blk_alloc ?_ _)); refine blk_put (cs := #[.bool ((bt a0 a1) == 119), .string (⟨#[]⟩ : ByteArray), .int .i64 0]) ?_ 1 _ rfl; (with_reducible repeat (first | refine blk_drewN ?_ _ | refine blk_drew ?_ | refine blk_alloc ?_ _)); exact BK346.out⟩, ⟨by repeat (first | (with_reducible first | exact HB.out | apply below_alloc | apply pw_below_drewN | apply below_drew1 | refine below_set ?_ GE345.out | refine below_set ?_ GE346.out) | exact HB.out)⟩⟩
                                · rw [if_neg c45] at H
                                  have c45b0 : decide ((a0.size : Int) ≤ (wrap64 ((ji37) + x8_27))) = false := decide_eq_false c45
                                  clear c45
                                  obtain ⟨ji46, hji46⟩ : ∃ j_ : Int, (wrap64 ((ji37) + x8_27)) = j_ := ⟨_, rfl⟩
                                  replace H : (if 0 ≤ (ji46) then (if (ji46) < (a0.size : Int) then (eyewitnessref07_one.j4 kj27 a0 ji46 ((bt a0 (ji46)) != 61) ((bt a0 a1) == 119) (a0.extract ((ji37) : Int).toNat ((ji46) : Int).toNat) 0) else (none)) else (none)) = some (r1, r2, r3, r4, r5) := by first | (rw [hji46] at H; exact H) | (simp only [hji46] at H ⊢; exact H)
                                  (try rw [hji46] at c39b0)
                                  (try rw [hji46] at c39b1)
                                  (try rw [hji46] at c39)
                                  (try rw [hji46] at c40b0)
                                  (try rw [hji46] at c40b1)
                                  (try rw [hji46] at c40)
                                  (try rw [hji46] at c45b0)
                                  have hji46w : (IntKind.i64.wrap ((ji37) + x8_27)) = ji46 := (i64_w _).trans hji46
                                  by_cases c47 : 0 ≤ (ji46)
                                  · rw [if_pos c47] at H
                                    have c47b0 : decide (0 ≤ (ji46)) = true := decide_eq_true c47
                                    clear c47
                                    by_cases c48 : (ji46) < (a0.size : Int)
                                    · rw [if_pos c48] at H
                                      have c48b0 : decide ((ji46) < (a0.size : Int)) = true := decide_eq_true c48
                                      clear c48
                                      have H' := Aside0.mk H
                                      clear H
                                      have p49 : 0 ≤ ((ji46) : Int) := of_decide_eq_true (by first | (with_reducible assumption) | assumption)
                                      have q49 : (ji46) < (a0.size : Int) := of_decide_eq_true (by first | (with_reducible assumption) | assumption)
                                      have hx49 := bt_at a0 (ji46)
                                      replace p49 := eq_true p49
                                      replace q49 := eq_true q49
                                      go_wp2
                                      go_meet
                                      case rel => exact ⟨_, (((bt a0 (ji46)) != 61)), (by first | rfl | (simp; done) | (simp only [← hji46] <;> (first | rfl | simp)) | (simp [*]; done)), (by first | exact H' | (simp only [hji46]; exact H')), ⟨by have := HJ2.out; have := HJ15.out; have := HJ27.out; first | omega | exact Nat.le_refl _⟩, ⟨by (with_reducible repeat (first | refine blk_drewN ?_ _ | refine blk_drew ?_ | refine blk_alloc ?_ _)); refine blk_far ?_ NB345_346.out _; (with_reducible repeat (first | refine blk_drewN ?_ _ | refine blk_drew ?_ | refine blk_alloc ?_ _)); exact BK345.out⟩, ⟨by (with_reducible repeat (first | refine blk_drewN ?_ _ | refine blk_drew ?_ | refine blk_alloc ?_ _)); refine blk_put (cs := #[.bool ((bt a0 a1) == 119), .string (⟨#[]⟩ : ByteArray), .int .i64 0]) ?_ 1 _ (by first | rfl | (simp only [hji46]; rfl) | (simp only [← hji46]; rfl) | (simp only [← hji46]; simp)); (with_reducible repeat (first | refine blk_drewN ?_ _ | refine blk_drew ?_ | refine blk_alloc ?_ _)); exact BK346.out⟩, ⟨by repeat (first | (with_reducible first | exact HB.out | apply below_alloc | apply pw_below_drewN | apply below_drew1 | refine below_set ?_ GE345.out | refine below_set ?_ GE346.out) | exact HB.out)⟩⟩
                                    · rw [if_neg c48] at H
                                      exact absurd H (by simp)
                                  · rw [if_neg c47] at H
                                    exact absurd H (by simp)
                            case rest =>
                              clear HC41
                              try clear c1
                              try clear p1
                              try clear q1
                              try clear hx1
                              try clear c2
                              try clear p2
                              try clear q2
                              try clear hx2
                              try clear c3
                              try clear p3
                              try clear q3
                              try clear hx3
                              try clear c4
                              try clear p4
                              try clear q4
                              try clear hx4
                              try clear c5
                              try clear c5b0
                              try clear c6
                              try clear c6b0
                              try clear p6
                              try clear c7
                              try clear c7b0
                              try clear p8
                              try clear q8
                              try clear hx8
                              try clear c9
                              try clear c9b0
                              try clear c9b1
                              try clear p10
                              try clear q10
                              try clear hx10
                              try clear c11
                              try clear c13
                              try clear c13b0
                              try clear c14
                              try clear c14b0
                              try clear p15
                              try clear q15
                              try clear hx15
                              try clear c18
                              try clear c20
                              try clear c20b0
                              try clear c22
                              try clear c22b0
                              try clear c23
                              try clear c23b0
                              try clear p24
                              try clear q24
                              try clear hx24
                              try clear c25
                              try clear c26
                              try clear c29
                              try clear c29b0
                              try clear c30
                              try clear c30b0
                              try clear c32
                              try clear c32b0
                              try clear p33
                              try clear q33
                              try clear hx33
                              try clear c34
                              try clear c34b0
                              try clear p35
                              try clear q35
                              try clear hx35
                              try clear c36
                              try clear c36b0
                              try clear c38
                              try clear c38b0
                              try clear c38b1
                              try clear c39
                              try clear c39b0
                              try clear c39b1
                              try clear c40
                              try clear c40b0
                              try clear c40b1
                              try clear c42
                              try clear c44
                              try clear c44b0
                              try clear c44b1
                              try clear c45
                              try clear c45b0
                              try clear c47
                              try clear c47b0
                              try clear c48
                              try clear c48b0
                              try clear p49
                              try clear q49
                              try clear hx49
                              try clear hcz12_0
                              try clear hcz12_1
                              try clear hcz12_2
                              try clear hcz19_0
                              try clear hcz19_1
                              try clear hcz19_2
                              try clear hcz27_0
                              try clear hcz27_1
                              try clear hcz27_2
                              try clear hcz43_0
                              try clear hcz43_1
                              try clear hcz43_2
                              try clear hfz12_0
                              try clear hfz12_1
                              try clear hfz12_2
                              try clear hfz19_0
                              try clear hfz19_1
                              try clear hfz19_2
                              try clear hfz27_0
                              try clear hfz27_1
                              try clear hfz27_2
                              try clear hfz43_0
                              try clear hfz43_1
                              try clear hfz43_2
                              try clear p1
                              try clear p10
                              try clear p15
                              try clear p2
                              try clear p24
                              try clear p3
                              try clear p33
                              try clear p35
                              try clear p49
                              try clear p6
                              try clear p8
                              try clear q1
                              try clear q10
                              try clear q15
                              try clear q2
                              try clear q24
                              try clear q3
                              try clear q33
                              try clear q35
                              try clear q49
                              try clear q8
                              obtain ⟨kq, x102_40, rfl, HA, HJ40, BK345, BK346, HB⟩ := hcut
                              cases kq with
                              | zero => exact absurd HA.out (by simp [eyewitnessref07_one.j4])
                              | succ kj40 =>
                                have H := HA.out
                                clear HA
                                simp only [eyewitnessref07_one.j4] at H
                                by_cases c50 : x102_40 = true
                                · subst c50
                                  have H1 : (some (false, (⟨#[]⟩ : ByteArray), 0, (wrap64 ((ji37) + x8_27)), 2)) = some (r1, r2, r3, r4, r5) := by rw [if_pos rfl] at H; exact H
                                  clear H
                                  have H := H1
                                  clear H1
                                  simp only [Option.some.injEq, Prod.mk.injEq] at H
                                  obtain ⟨rfl, rfl, rfl, rfl, rfl⟩ := H
                                  have hnb51 := NB345_346.out
                                  have hnc51 := NB346_345.out
                                  have hcz52_0 : wc.cell? ⟨gb345, 0, none⟩ = some (.bool false) := (blk_cell BK345.out 0).trans rfl
                                  have hcz52_1 : wc.cell? ⟨gb345, 1, none⟩ = some (.string (⟨#[]⟩ : ByteArray)) := (blk_cell BK345.out 1).trans rfl
                                  have hcz52_2 : wc.cell? ⟨gb345, 2, none⟩ = some (.int .i64 0) := (blk_cell BK345.out 2).trans rfl
                                  have hfz52_0 := blk_frozen BK345.out 0
                                  have hfz52_1 := blk_frozen BK345.out 1
                                  have hfz52_2 := blk_frozen BK345.out 2
                                  go_wp2
                                  refine bodyPost_ret (results_ctt rfl _ _ gb345 61 #[.bool false, .string (⟨#[]⟩ : ByteArray), .int .i64 0] (0, 0) _ rfl (by (with_reducible repeat (first | refine blk_drewN ?_ _ | refine blk_drew ?_ | refine blk_alloc ?_ _)); refine blk_put (cs := #[.bool false, .string (⟨#[]⟩ : ByteArray), .int .i64 0]) ?_ 2 _ rfl; (with_reducible repeat (first | refine blk_drewN ?_ _ | refine blk_drew ?_ | refine blk_alloc ?_ _)); refine blk_put (cs := #[.bool false, .string (⟨#[]⟩ : ByteArray), .int .i64 0]) ?_ 1 _ rfl; (with_reducible repeat (first | refine blk_drewN ?_ _ | refine blk_drew ?_ | refine blk_alloc ?_ _)); refine blk_put (cs := #[.bool false, .string (⟨#[]⟩ : ByteArray), .int .i64 0]) ?_ 0 _ rfl; (with_reducible repeat (first | refine blk_drewN ?_ _ | refine blk_drew ?_ | refine blk_alloc ?_ _)); exact BK345.out) Tryd.underlying61 rfl (by kernel_rfl)) rfl ?_
                                  exact ⟨by first | rfl | (simp [errW_none, errW_some] <;> rfl) | (simp only [← hji37]; first | rfl | (simp [errW_none, errW_some] <;> rfl)) | (simp [*, errW_none, errW_some] <;> rfl), by repeat (first | (with_reducible first | exact HB.out | apply below_alloc | apply pw_below_drewN | apply below_drew1 | refine below_set ?_ GE345.out | refine below_set ?_ GE346.out) | exact HB.out)⟩
                                · replace c50 := Bool.eq_false_iff.mpr c50
                                  subst c50
                                  have H1 : ((eyewitnessref05_Span.f kj40 a0 (wrap64 ((wrap64 ((ji37) + x8_27)) + 1))).bind fun t347 => (if 0 ≤ (wrap64 ((wrap64 ((ji37) + x8_27)) + 1)) then (if (wrap64 ((wrap64 ((ji37) + x8_27)) + 1)) ≤ (wrap64 ((wrap64 ((wrap64 ((ji37) + x8_27)) + 1)) + t347)) then (if (wrap64 ((wrap64 ((wrap64 ((ji37) + x8_27)) + 1)) + t347)) ≤ (a0.size : Int) then ((eyewitnessref05_Get.f kj40 (a0.extract ((wrap64 ((wrap64 ((ji37) + x8_27)) + 1)) : Int).toNat ((wrap64 ((wrap64 ((wrap64 ((ji37) + x8_27)) + 1)) + t347)) : Int).toNat)).bind fun bt348 => (if bt348.2 = 0 then (some (((bt a0 a1) == 119), (a0.extract ((ji37) : Int).toNat ((wrap64 ((ji37) + x8_27)) : Int).toNat), bt348.1, wrap64 ((wrap64 ((wrap64 ((ji37) + x8_27)) + 1)) + t347), 0)) else (some (false, (⟨#[]⟩ : ByteArray), 0, wrap64 ((wrap64 ((ji37) + x8_27)) + 1), bt348.2)))) else (none)) else (none)) else (none))) = some (r1, r2, r3, r4, r5) := by rw [if_neg (show ¬ (false = true) by decide)] at H; exact H
                                  clear H
                                  have H := H1
                                  clear H1
                                  replace H := Option.bind_eq_some_iff.mp H
                                  obtain ⟨t347, A530, H⟩ := H
                                  replace H : (if 0 ≤ (wrap64 ((wrap64 ((ji37) + x8_27)) + 1)) then (if (wrap64 ((wrap64 ((ji37) + x8_27)) + 1)) ≤ (wrap64 ((wrap64 ((wrap64 ((ji37) + x8_27)) + 1)) + t347)) then (if (wrap64 ((wrap64 ((wrap64 ((ji37) + x8_27)) + 1)) + t347)) ≤ (a0.size : Int) then ((eyewitnessref05_Get.f kj40 (a0.extract ((wrap64 ((wrap64 ((ji37) + x8_27)) + 1)) : Int).toNat ((wrap64 ((wrap64 ((wrap64 ((ji37) + x8_27)) + 1)) + t347)) : Int).toNat)).bind fun bt348 => (if bt348.2 = 0 then (some (((bt a0 a1) == 119), (a0.extract ((ji37) : Int).toNat ((wrap64 ((ji37) + x8_27)) : Int).toNat), bt348.1, wrap64 ((wrap64 ((wrap64 ((ji37) + x8_27)) + 1)) + t347), 0)) else (some (false, (⟨#[]⟩ : ByteArray), 0, wrap64 ((wrap64 ((ji37) + x8_27)) + 1), bt348.2)))) else (none)) else (none)) else (none)) = some (r1, r2, r3, r4, r5) := H
                                  have A53 := Aside0.mk A530
                                  clear A530
                                  obtain ⟨ji54, hji54⟩ : ∃ j_ : Int, (wrap64 ((wrap64 ((ji37) + x8_27)) + 1)) = j_ := ⟨_, rfl⟩
                                  replace H : (if 0 ≤ (ji54) then (if (ji54) ≤ (wrap64 ((ji54) + t347)) then (if (wrap64 ((ji54) + t347)) ≤ (a0.size : Int) then ((eyewitnessref05_Get.f kj40 (a0.extract ((ji54) : Int).toNat ((wrap64 ((ji54) + t347)) : Int).toNat)).bind fun bt348 => (if bt348.2 = 0 then (some (((bt a0 a1) == 119), (a0.extract ((ji37) : Int).toNat ((wrap64 ((ji37) + x8_27)) : Int).toNat), bt348.1, wrap64 ((ji54) + t347), 0)) else (some (false, (⟨#[]⟩ : ByteArray), 0, ji54, bt348.2)))) else (none)) else (none)) else (none)) = some (r1, r2, r3, r4, r5) := by first | (rw [hji54] at H; exact H) | (simp only [hji54] at H ⊢; exact H)
                                  (try rw [hji54] at A53)
                                  have hji54w : (IntKind.i64.wrap ((wrap64 ((ji37) + x8_27)) + 1)) = ji54 := (i64_w _).trans hji54
                                  by_cases c55 : 0 ≤ (ji54)
                                  · rw [if_pos c55] at H
                                    have c55b0 := eq_true c55
                                    have c55b1 : decide (0 ≤ (ji54)) = true := decide_eq_true c55
                                    clear c55
                                    by_cases c56 : (ji54) ≤ (wrap64 ((ji54) + t347))
                                    · rw [if_pos c56] at H
                                      have c56b0 := eq_true c56
                                      have c56b1 : decide ((ji54) ≤ (wrap64 ((ji54) + t347))) = true := decide_eq_true c56
                                      by_cases c57 : (wrap64 ((ji54) + t347)) ≤ (a0.size : Int)
                                      · rw [if_pos c57] at H
                                        have c57b0 := eq_true c57
                                        have c57b1 : decide ((wrap64 ((ji54) + t347)) ≤ (a0.size : Int)) = true := decide_eq_true c57
                                        replace H := Option.bind_eq_some_iff.mp H
                                        obtain ⟨⟨t348, t349⟩, A580, H⟩ := H
                                        replace H : (if t349 = 0 then (some (((bt a0 a1) == 119), (a0.extract ((ji37) : Int).toNat ((wrap64 ((ji37) + x8_27)) : Int).toNat), t348, wrap64 ((ji54) + t347), 0)) else (some (false, (⟨#[]⟩ : ByteArray), 0, ji54, t349))) = some (r1, r2, r3, r4, r5) := H
                                        have A58 := Aside0.mk A580
                                        clear A580
                                        by_cases c59 : t349 = 0
                                        · rw [if_pos c59] at H
                                          have c59b0 : (t349 == 0) = true := beq_iff_eq.mpr c59
                                          have c59b1 : (t349 != 0) = false := bne_eq_false_iff_eq.mpr c59
                                          clear c59
                                          simp only [Option.some.injEq, Prod.mk.injEq] at H
                                          obtain ⟨rfl, rfl, rfl, rfl, rfl⟩ := H
                                          go_wp2_with (first | ((with_reducible refine gate_callee (f := 51) rfl ?_); refine goesL_ (some 109) rfl rfl Tryd.func51 (by kernel_rfl) rfl #[.string a0, .int .i64 ji54] rfl (by (try simp only [List.map_toArray, List.map_cons, List.map_nil]); first | done | (simp only [hji54]; rfl) | rfl | (simp only [List.length_drop, List.length_take]; rfl)) ?_; (with_reducible refine (eyewitnessref05_Span.calls kj40 a0 ji54 t347 _ A53.out).mono ?_); rintro e w' ⟨rfl, ⟨nd, rfl⟩⟩; refine ⟨_, rfl, ?_⟩; (try (rw [drewN_self wc]; generalize hq_ : World.drewN wc _ = wc; have n0_ : Aside0 (wc.heap[gb345]? = some (.cells #[.bool false, .string (⟨#[]⟩ : ByteArray), .int .i64 0] 61 (0, 0))) := ⟨by rw [← hq_]; exact (by (with_reducible repeat (first | refine blk_drewN ?_ _ | refine blk_drew ?_ | refine blk_alloc ?_ _)); exact BK345.out)⟩; have n1_ : Aside0 (wc.heap[gb346]? = some (.cells #[.bool ((bt a0 a1) == 119), .string (a0.extract ((ji37) : Int).toNat ((wrap64 ((ji37) + x8_27)) : Int).toNat), .int .i64 0] 61 (0, 0))) := ⟨by rw [← hq_]; exact (by (with_reducible repeat (first | refine blk_drewN ?_ _ | refine blk_drew ?_ | refine blk_alloc ?_ _)); exact BK346.out)⟩; have n2_ : Aside0 (Below w.heap.size w wc) := ⟨by rw [← hq_]; exact (by repeat (first | (with_reducible first | exact HB.out | apply below_alloc | apply pw_below_drewN | apply below_drew1 | refine below_set ?_ GE345.out | refine below_set ?_ GE346.out) | exact HB.out))⟩; clear BK345 BK346 HB hq_; have BK345 := n0_; have BK346 := n1_; have HB := n2_; clear n0_ n1_ n2_))) | ((with_reducible refine gate_callee (f := 47) rfl ?_); refine goesL_ (some 117) rfl rfl Tryd.func47 (by kernel_rfl) rfl #[.string (a0.extract ((ji54) : Int).toNat ((wrap64 ((ji54) + t347)) : Int).toNat)] rfl (by (try simp only [List.map_toArray, List.map_cons, List.map_nil]); first | done | (simp only [hji54]; rfl) | rfl | (simp only [List.length_drop, List.length_take]; rfl)) ?_; (with_reducible refine (eyewitnessref05_Get.calls kj40 (a0.extract ((ji54) : Int).toNat ((wrap64 ((ji54) + t347)) : Int).toNat) t348 t349 _ A58.out).mono ?_); rintro e w' ⟨rfl, ⟨nd, rfl⟩⟩; refine ⟨_, rfl, ?_⟩; (try (rw [drewN_self wc]; generalize hq_ : World.drewN wc _ = wc; have n0_ : Aside0 (wc.heap[gb345]? = some (.cells #[.bool false, .string (⟨#[]⟩ : ByteArray), .int .i64 0] 61 (0, 0))) := ⟨by rw [← hq_]; exact (by (with_reducible repeat (first | refine blk_drewN ?_ _ | refine blk_drew ?_ | refine blk_alloc ?_ _)); exact BK345.out)⟩; have n1_ : Aside0 (wc.heap[gb346]? = some (.cells #[.bool ((bt a0 a1) == 119), .string (a0.extract ((ji37) : Int).toNat ((wrap64 ((ji37) + x8_27)) : Int).toNat), .int .i64 0] 61 (0, 0))) := ⟨by rw [← hq_]; exact (by (with_reducible repeat (first | refine blk_drewN ?_ _ | refine blk_drew ?_ | refine blk_alloc ?_ _)); exact BK346.out)⟩; have n2_ : Aside0 (Below w.heap.size w wc) := ⟨by rw [← hq_]; exact (by repeat (first | (with_reducible first | exact HB.out | apply below_alloc | apply pw_below_drewN | apply below_drew1 | refine below_set ?_ GE345.out | refine below_set ?_ GE346.out) | exact HB.out))⟩; clear BK345 BK346 HB hq_; have BK345 := n0_; have BK346 := n1_; have HB := n2_; clear n0_ n1_ n2_)); have hnb60 := NB346_345.out; have hnc60 := NB345_346.out; have hcz61_0 : wc.cell? ⟨gb346, 0, none⟩ = some (.bool ((bt a0 a1) == 119)) := (blk_cell BK346.out 0).trans rfl; have hcz61_1 : wc.cell? ⟨gb346, 1, none⟩ = some (.string (a0.extract ((ji37) : Int).toNat ((wrap64 ((ji37) + x8_27)) : Int).toNat)) := (blk_cell BK346.out 1).trans rfl; have hcz61_2 : wc.cell? ⟨gb346, 2, none⟩ = some (.int .i64 0) := (blk_cell BK346.out 2).trans rfl; have hfz61_0 := blk_frozen BK346.out 0; have hfz61_1 := blk_frozen BK346.out 1; have hfz61_2 := blk_frozen BK346.out 2; have hcz62_0 : wc.cell? ⟨gb345, 0, none⟩ = some (.bool false) := (blk_cell BK345.out 0).trans rfl; have hcz62_1 : wc.cell? ⟨gb345, 1, none⟩ = some (.string (⟨#[]⟩ : ByteArray)) := (blk_cell BK345.out 1).trans rfl; have hcz62_2 : wc.cell? ⟨gb345, 2, none⟩ = some (.int .i64 0) := (blk_cell BK345.out 2).trans rfl; have hfz62_0 := blk_frozen BK345.out 0; have hfz62_1 := blk_frozen BK345.out 1; have hfz62_2 := blk_frozen BK345.out 2))
                                          refine bodyPost_ret (results_ctt rfl _ _ gb345 61 #[.bool ((bt a0 a1) == 119), .string (a0.extract ((ji37) : Int).toNat ((wrap64 ((ji37) + x8_27)) : Int).toNat), .int .i64 t348] (0, 0) _ rfl (by (with_reducible repeat (first | refine blk_drewN ?_ _ | refine blk_drew ?_ | refine blk_alloc ?_ _)); refine blk_put (cs := #[.bool ((bt a0 a1) == 119), .string (a0.extract ((ji37) : Int).toNat ((wrap64 ((ji37) + x8_27)) : Int).toNat), .int .i64 0]) ?_ 2 _ rfl; (with_reducible repeat (first | refine blk_drewN ?_ _ | refine blk_drew ?_ | refine blk_alloc ?_ _)); refine blk_put (cs := #[.bool ((bt a0 a1) == 119), .string (⟨#[]⟩ : ByteArray), .int .i64 0]) ?_ 1 _ rfl; (with_reducible repeat (first | refine blk_drewN ?_ _ | refine blk_drew ?_ | refine blk_alloc ?_ _)); refine blk_put (cs := #[.bool false, .string (⟨#[]⟩ : ByteArray), .int .i64 0]) ?_ 0 _ rfl; (with_reducible repeat (first | refine blk_drewN ?_ _ | refine blk_drew ?_ | refine blk_alloc ?_ _)); refine blk_far ?_ NB345_346.out _; (with_reducible repeat (first | refine blk_drewN ?_ _ | refine blk_drew ?_ | refine blk_alloc ?_ _)); exact BK345.out) Tryd.underlying61 rfl (by kernel_rfl)) rfl ?_
                                          exact ⟨by first | rfl | (simp [errW_none, errW_some] <;> rfl) | (simp only [← hji37, ← hji54]; first | rfl | (simp [errW_none, errW_some] <;> rfl)) | (simp [*, errW_none, errW_some] <;> rfl), by repeat (first | (with_reducible first | exact HB.out | apply below_alloc | apply pw_below_drewN | apply below_drew1 | refine below_set ?_ GE345.out | refine below_set ?_ GE346.out) | exact HB.out)⟩
                                        · rw [if_neg c59] at H
                                          have c59b0 : (t349 == 0) = false := beq_eq_false_iff_ne.mpr c59
                                          have c59b1 : (t349 != 0) = true := bne_iff_ne.mpr c59
                                          simp only [Option.some.injEq, Prod.mk.injEq] at H
                                          obtain ⟨rfl, rfl, rfl, rfl, rfl⟩ := H
                                          go_wp2_with (first | ((with_reducible refine gate_callee (f := 51) rfl ?_); refine goesL_ (some 109) rfl rfl Tryd.func51 (by kernel_rfl) rfl #[.string a0, .int .i64 ji54] rfl (by (try simp only [List.map_toArray, List.map_cons, List.map_nil]); first | done | (simp only [hji54]; rfl) | rfl | (simp only [List.length_drop, List.length_take]; rfl)) ?_; (with_reducible refine (eyewitnessref05_Span.calls kj40 a0 ji54 t347 _ A53.out).mono ?_); rintro e w' ⟨rfl, ⟨nd, rfl⟩⟩; refine ⟨_, rfl, ?_⟩; (try (rw [drewN_self wc]; generalize hq_ : World.drewN wc _ = wc; have n0_ : Aside0 (wc.heap[gb345]? = some (.cells #[.bool false, .string (⟨#[]⟩ : ByteArray), .int .i64 0] 61 (0, 0))) := ⟨by rw [← hq_]; exact (by (with_reducible repeat (first | refine blk_drewN ?_ _ | refine blk_drew ?_ | refine blk_alloc ?_ _)); exact BK345.out)⟩; have n1_ : Aside0 (wc.heap[gb346]? = some (.cells #[.bool ((bt a0 a1) == 119), .string (a0.extract ((ji37) : Int).toNat ((wrap64 ((ji37) + x8_27)) : Int).toNat), .int .i64 0] 61 (0, 0))) := ⟨by rw [← hq_]; exact (by (with_reducible repeat (first | refine blk_drewN ?_ _ | refine blk_drew ?_ | refine blk_alloc ?_ _)); exact BK346.out)⟩; have n2_ : Aside0 (Below w.heap.size w wc) := ⟨by rw [← hq_]; exact (by repeat (first | (with_reducible first | exact HB.out | apply below_alloc | apply pw_below_drewN | apply below_drew1 | refine below_set ?_ GE345.out | refine below_set ?_ GE346.out) | exact HB.out))⟩; clear BK345 BK346 HB hq_; have BK345 := n0_; have BK346 := n1_; have HB := n2_; clear n0_ n1_ n2_))) | ((with_reducible refine gate_callee (f := 47) rfl ?_); refine goesL_ (some 117) rfl rfl Tryd.func47 (by kernel_rfl) rfl #[.string (a0.extract ((ji54) : Int).toNat ((wrap64 ((ji54) + t347)) : Int).toNat)] rfl (by (try simp only [List.map_toArray, List.map_cons, List.map_nil]); first | done | (simp only [hji54]; rfl) | rfl | (simp only [List.length_drop, List.length_take]; rfl)) ?_; (with_reducible refine (eyewitnessref05_Get.calls kj40 (a0.extract ((ji54) : Int).toNat ((wrap64 ((ji54) + t347)) : Int).toNat) t348 t349 _ A58.out).mono ?_); rintro e w' ⟨rfl, ⟨nd, rfl⟩⟩; refine ⟨_, rfl, ?_⟩; (try (rw [drewN_self wc]; generalize hq_ : World.drewN wc _ = wc; have n0_ : Aside0 (wc.heap[gb345]? = some (.cells #[.bool false, .string (⟨#[]⟩ : ByteArray), .int .i64 0] 61 (0, 0))) := ⟨by rw [← hq_]; exact (by (with_reducible repeat (first | refine blk_drewN ?_ _ | refine blk_drew ?_ | refine blk_alloc ?_ _)); exact BK345.out)⟩; have n1_ : Aside0 (wc.heap[gb346]? = some (.cells #[.bool ((bt a0 a1) == 119), .string (a0.extract ((ji37) : Int).toNat ((wrap64 ((ji37) + x8_27)) : Int).toNat), .int .i64 0] 61 (0, 0))) := ⟨by rw [← hq_]; exact (by (with_reducible repeat (first | refine blk_drewN ?_ _ | refine blk_drew ?_ | refine blk_alloc ?_ _)); exact BK346.out)⟩; have n2_ : Aside0 (Below w.heap.size w wc) := ⟨by rw [← hq_]; exact (by repeat (first | (with_reducible first | exact HB.out | apply below_alloc | apply pw_below_drewN | apply below_drew1 | refine below_set ?_ GE345.out | refine below_set ?_ GE346.out) | exact HB.out))⟩; clear BK345 BK346 HB hq_; have BK345 := n0_; have BK346 := n1_; have HB := n2_; clear n0_ n1_ n2_)); have hnb63 := NB345_346.out; have hnc63 := NB346_345.out; have hcz64_0 : wc.cell? ⟨gb345, 0, none⟩ = some (.bool false) := (blk_cell BK345.out 0).trans rfl; have hcz64_1 : wc.cell? ⟨gb345, 1, none⟩ = some (.string (⟨#[]⟩ : ByteArray)) := (blk_cell BK345.out 1).trans rfl; have hcz64_2 : wc.cell? ⟨gb345, 2, none⟩ = some (.int .i64 0) := (blk_cell BK345.out 2).trans rfl; have hfz64_0 := blk_frozen BK345.out 0; have hfz64_1 := blk_frozen BK345.out 1; have hfz64_2 := blk_frozen BK345.out 2))
                                          refine bodyPost_ret (results_ctt rfl _ _ gb345 61 #[.bool false, .string (⟨#[]⟩ : ByteArray), .int .i64 0] (0, 0) _ rfl (by (with_reducible repeat (first | refine blk_drewN ?_ _ | refine blk_drew ?_ | refine blk_alloc ?_ _)); refine blk_put (cs := #[.bool false, .string (⟨#[]⟩ : ByteArray), .int .i64 0]) ?_ 2 _ rfl; (with_reducible repeat (first | refine blk_drewN ?_ _ | refine blk_drew ?_ | refine blk_alloc ?_ _)); refine blk_put (cs := #[.bool false, .string (⟨#[]⟩ : ByteArray), .int .i64 0]) ?_ 1 _ rfl; (with_reducible repeat (first | refine blk_drewN ?_ _ | refine blk_drew ?_ | refine blk_alloc ?_ _)); refine blk_put (cs := #[.bool false, .string (⟨#[]⟩ : ByteArray), .int .i64 0]) ?_ 0 _ rfl; (with_reducible repeat (first | refine blk_drewN ?_ _ | refine blk_drew ?_ | refine blk_alloc ?_ _)); exact BK345.out) Tryd.underlying61 rfl (by kernel_rfl)) rfl ?_
                                          exact ⟨by first | rfl | (simp [errW_none, errW_some] <;> rfl) | (simp only [← hji37, ← hji54]; first | rfl | (simp [errW_none, errW_some] <;> rfl)) | (simp [*, errW_none, errW_some] <;> rfl), by repeat (first | (with_reducible first | exact HB.out | apply below_alloc | apply pw_below_drewN | apply below_drew1 | refine below_set ?_ GE345.out | refine below_set ?_ GE346.out) | exact HB.out)⟩
                                      · rw [if_neg c57] at H
                                        exact absurd H (by simp)
                                    · rw [if_neg c56] at H
                                      exact absurd H (by simp)
                                  · rw [if_neg c55] at H
                                    exact absurd H (by simp)
                          · rw [if_neg c40] at H
                            exact absurd H (by simp)
                        · rw [if_neg c39] at H
                          exact absurd H (by simp)
                      · rw [if_neg c38] at H
                        exact absurd H (by simp)
          · rw [if_neg c14] at H
            exact absurd H (by simp)
        · rw [if_neg c13] at H
          exact absurd H (by simp)

end Go.Proofs.YtcabnjinfkjnjaaDoor.XH
