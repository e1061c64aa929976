-- Written by a program of this session (xprint.py over the kit's print): functions, their contracts, laws.
import Derived.Test.YtcabnjinfkjnjaaDoorXHx0
import Derived.Test.YtcabnjinfkjnjaaDoorXHx2
import Derived.Test.YtcabnjinfkjnjaaDoorXHx6
import Derived.Test.YtcabnjinfkjnjaaDoorXHx7
import Derived.Test.YtcabnjinfkjnjaaDoorGFlat
import Derived.Test.YtcabnjinfkjnjaaDoorGSpot
import Derived.Test.YtcabnjinfkjnjaaDoorPureNum
import Derived.Test.YtcabnjinfkjnjaaDoorGNum
namespace Go.Proofs.YtcabnjinfkjnjaaDoor.XH
open Go.RowKit Go.Proofs.YtcabnjinfkjnjaaDoorW.PrintWords Go.Proofs.YtcabnjinfkjnjaaDoorW.PrintLast Go.Proofs.YtcabnjinfkjnjaaDoorW.PrintMore Go.Proofs.YtcabnjinfkjnjaaDoor.X
attribute [local go_sem] max2_int min2_int max_two min_two max_three min_three max_four min_four   -- for this text's walks alone
set_option linter.unusedVariables false
set_option linter.unusedSimpArgs false

attribute [local go_sem high] eqA61

/-! ### eyewitnessref06_Spot: function 33 -/
def eyewitnessref06_Spot.l0 : Nat → List (List (S61)) → Int → Int → Option (Int × Int × Bool)
  | 0, _, _, _ => none
  | k + 1, x0, x1, x6 => if x6 < (x0.length : Int) then (if 0 ≤ x6 then (if x1 < ((rd_L4 x0 x6).length : Int) then (some (x6, x1, true)) else (eyewitnessref06_Spot.l0 k x0 (wrap64 (x1 - ((rd_L4 x0 x6).length : Int))) (wrap64 (x6 + 1)))) else (none)) else (some (0, 0, false))
def eyewitnessref06_Spot.f (k : Nat) (l0 : List (List (S61))) (a1 : Int) : Option (Int × Int × Bool) := if a1 < 0 then (some (0, 0, false)) else (eyewitnessref06_Spot.l0 k l0 a1 0)
theorem eyewitnessref06_Spot.mono_l : ∀ k, (∀ y0 y1 y2, LeO (eyewitnessref06_Spot.l0 k y0 y1 y2) (eyewitnessref06_Spot.l0 (k + 1) y0 y1 y2))
  | 0 => fun _ _ _ r h => by simp [eyewitnessref06_Spot.l0] at h
  | k + 1 => by
    have ih0 := eyewitnessref06_Spot.mono_l k
    · intro y0 y1 y2
      unfold eyewitnessref06_Spot.l0
      repeat' first
      | (with_reducible exact ih0 _ _ _)
      | (with_reducible exact LeO.refl _)
      | (with_reducible exact LeO.none _)
      | (with_reducible refine LeO.ite ?_ ?_)
      | (with_reducible refine LeO.bind ?_ (fun _ => ?_))
      | exact ih0 _ _ _
      | exact LeO.none _
      | refine LeO.ite ?_ ?_
      | refine LeO.bind ?_ (fun _ => ?_)
theorem eyewitnessref06_Spot.mono : ∀ a0 a1 k, LeO (eyewitnessref06_Spot.f k a0 a1) (eyewitnessref06_Spot.f (k + 1) a0 a1) := by
  intro a0 a1 k
  have ih0 := eyewitnessref06_Spot.mono_l k
  unfold eyewitnessref06_Spot.f
  repeat' first
      | (with_reducible exact ih0 _ _ _)
      | (with_reducible exact LeO.refl _)
      | (with_reducible exact LeO.none _)
      | (with_reducible refine LeO.ite ?_ ?_)
      | (with_reducible refine LeO.bind ?_ (fun _ => ?_))
      | exact ih0 _ _ _
      | exact LeO.none _
      | refine LeO.ite ?_ ?_
      | refine LeO.bind ?_ (fun _ => ?_)
set_option maxHeartbeats 8000000 in
set_option maxRecDepth 100000 in
theorem eyewitnessref06_Spot.calls (k : Nat) (A0 : Option Addr) (c0 : Nat) (l0 : List (List (S61))) (a1 : Int) (r1 : Int) (r2 : Int) (r3 : Bool) (w : World) (hr0 : Kd.C (Kd.slice 61 k61) w A0 l0.length l0) (hc0 : l0.length ≤ c0) (h : eyewitnessref06_Spot.f k l0 a1 = some (r1, r2, r3)) :
    Calls Tryd.prog 33 #[.slice A0 l0.length c0, .int .i64 a1] w fun e w' => e = .returned (.tuple #[.agg #[.int .i64 r1, .int .i64 r2], .bool r3]) ∧ Below w.heap.size w w' := by
  have hu55 := Tryd.underlying55
  have HR0 := Aside0.mk hr0
  have HC0 := Aside0.mk hc0
  clear hr0 hc0
  have HB := Aside0.mk (Below.refl w.heap.size w)
  have H : (if a1 < 0 then (some (0, 0, false)) else (eyewitnessref06_Spot.l0 k l0 a1 0)) = some (r1, r2, r3) := h
  clear h
  by_cases c3 : a1 < 0
  · rw [if_pos c3] at H
    have c3b0 : decide (a1 < 0) = true := decide_eq_true c3
    clear c3
    simp only [Option.some.injEq, Prod.mk.injEq] at H
    obtain ⟨rfl, rfl, rfl⟩ := H
    go_enter Tryd.func33, Tryd.ntmps33
    go_wp2_with (first | ((with_reducible refine gate_dst (N := 4) rfl ?_); refine box_event ?hg (N := 4) ?hd (cs := #[.int .i64 0, .int .i64 0]) (t := 55) ?hr ?_; (case hd => rfl); (case hg => rfl); (case hr => first | (go_simp; done) | (go_simp; rfl)); intro gb263 hg w4 hbox hb; have n0_ := Aside0.mk (below_step (by repeat (first | (with_reducible first | exact HB.out | apply below_alloc | apply pw_below_drewN | apply below_drew1) | exact HB.out)) hb); have n1_ := Aside0.mk (hbox); have n2_ := Aside0.mk ((by rw [hg]; exact (below_size (by repeat (first | (with_reducible first | exact HB.out | apply below_alloc | apply pw_below_drewN | apply below_drew1) | exact HB.out))) : w.heap.size ≤ gb263)); have n3_ := Aside0.mk ((by rw [hg]; exact (below_size (by repeat (first | (with_reducible first | exact HB.out | apply below_alloc | apply pw_below_drewN | apply below_drew1) | exact HB.out))) : w.heap.size ≤ gb263)); clear HB; have HB := n0_; have BK263 := n1_; have GW263 := n2_; have GE263 := n3_; clear n0_ n1_ n2_ n3_; clear hb hbox hg; have hcz5_0 : w4.cell? ⟨gb263, 0, none⟩ = some (.int .i64 0) := (blk_cell BK263.out 0).trans rfl; have hcz5_1 : w4.cell? ⟨gb263, 1, none⟩ = some (.int .i64 0) := (blk_cell BK263.out 1).trans rfl; have hfz5_0 := blk_frozen BK263.out 0; have hfz5_1 := blk_frozen BK263.out 1))
    refine bodyPost_ret (results_ct rfl _ _ gb263 55 #[.int .i64 0, .int .i64 0] (0, 0) _ rfl (by (with_reducible repeat (first | refine blk_drewN ?_ _ | refine blk_drew ?_ | refine blk_alloc ?_ _)); refine blk_put (cs := #[.int .i64 0, .int .i64 0]) ?_ 1 _ rfl; (with_reducible repeat (first | refine blk_drewN ?_ _ | refine blk_drew ?_ | refine blk_alloc ?_ _)); refine blk_put (cs := #[.int .i64 0, .int .i64 0]) ?_ 0 _ rfl; (with_reducible repeat (first | refine blk_drewN ?_ _ | refine blk_drew ?_ | refine blk_alloc ?_ _)); exact BK263.out) Tryd.underlying55 rfl (by kernel_rfl)) rfl ?_
    exact ⟨by first | rfl | (simp [errW_none, errW_some] <;> rfl) | (simp [*, errW_none, errW_some] <;> rfl), by repeat (first | (with_reducible first | exact HB.out | apply below_alloc | apply pw_below_drewN | apply below_drew1 | refine below_set ?_ GE263.out) | exact HB.out)⟩
  · rw [if_neg c3] at H
    have c3b0 : decide (a1 < 0) = false := decide_eq_false c3
    clear c3
    have H' := Aside0.mk H
    clear H
    go_enter Tryd.func33, Tryd.ntmps33
    go_wp2_with (first | ((with_reducible refine gate_dst (N := 4) rfl ?_); refine box_event ?hg (N := 4) ?hd (cs := #[.int .i64 0, .int .i64 0]) (t := 55) ?hr ?_; (case hd => rfl); (case hg => rfl); (case hr => first | (go_simp; done) | (go_simp; rfl)); intro gb263 hg w6 hbox hb; have n0_ := Aside0.mk (below_step (by repeat (first | (with_reducible first | exact HB.out | apply below_alloc | apply pw_below_drewN | apply below_drew1) | exact HB.out)) hb); have n1_ := Aside0.mk (hbox); have n2_ := Aside0.mk ((by rw [hg]; exact (below_size (by repeat (first | (with_reducible first | exact HB.out | apply below_alloc | apply pw_below_drewN | apply below_drew1) | exact HB.out))) : w.heap.size ≤ gb263)); have n3_ := Aside0.mk ((by rw [hg]; exact (below_size (by repeat (first | (with_reducible first | exact HB.out | apply below_alloc | apply pw_below_drewN | apply below_drew1) | exact HB.out))) : w.heap.size ≤ gb263)); clear HB; have HB := n0_; have BK263 := n1_; have GW263 := n2_; have GE263 := n3_; clear n0_ n1_ n2_ n3_; clear hb hbox hg))
    go_loopg [1, 6] k (fun kq v1 v6 w' => ∃ (x1_1 : Int) (x6_1 : Int) (x264000_1 : Int) (x264001_1 : Int), v1 = .int .i64 x1_1 ∧ v6 = .int .i64 x6_1 ∧ Aside0 (eyewitnessref06_Spot.l0 kq l0 x1_1 x6_1 = some (r1, r2, r3)) ∧ Aside0 (kq ≤ k) ∧ Aside0 (w'.heap[gb263]? = some (.cells #[.int .i64 x264000_1, .int .i64 x264001_1] 55 (0, 0))) ∧ Aside0 (Below w.heap.size w w'))
    case atStart => exact ⟨(a1), (0), (0), (0), (by first | rfl | (simp; done) | (simp [*]; done)), (by first | rfl | (simp; done) | (simp [*]; done)), H', ⟨Nat.le_refl _⟩, ⟨by (with_reducible repeat (first | refine blk_drewN ?_ _ | refine blk_drew ?_ | refine blk_alloc ?_ _)); exact BK263.out⟩, ⟨by repeat (first | (with_reducible first | exact HB.out | apply below_alloc | apply pw_below_drewN | apply below_drew1 | refine below_set ?_ GE263.out) | exact HB.out)⟩⟩
    case round =>
      clear H'
      try clear p2
      try clear c3
      try clear c3b0
      try clear hcz5_0
      try clear hcz5_1
      try clear hfz5_0
      try clear hfz5_1
      obtain ⟨x1_1, x6_1, x264000_1, x264001_1, rfl, rfl, HA, HK1, BK263, HB⟩ := hrel
      cases gk with
      | zero => exact absurd HA.out (by simp [eyewitnessref06_Spot.l0])
      | succ k1 =>
        have H := HA.out
        clear HA
        simp only [eyewitnessref06_Spot.l0] at H
        by_cases c7 : x6_1 < (l0.length : Int)
        · rw [if_pos c7] at H
          have c7b0 : decide (x6_1 < (l0.length : Int)) = true := decide_eq_true c7
          clear c7
          by_cases c8 : 0 ≤ x6_1
          · rw [if_pos c8] at H
            have c8b0 : decide (0 ≤ x6_1) = true := decide_eq_true c8
            clear c8
            by_cases c9 : x1_1 < ((rd_L4 l0 x6_1).length : Int)
            · rw [if_pos c9] at H
              have c9b0 : decide (x1_1 < ((rd_L4 l0 x6_1).length : Int)) = true := decide_eq_true c9
              clear c9
              simp only [Option.some.injEq, Prod.mk.injEq] at H
              obtain ⟨rfl, rfl, rfl⟩ := H
              have p264 : 0 ≤ (x6_1 : Int) := of_decide_eq_true (by first | (with_reducible assumption) | assumption)
              have q264 : x6_1 < (l0.length : Int) := of_decide_eq_true (by first | (with_reducible assumption) | assumption)
              obtain ⟨ad264, A264_0, c264_0, e264, hx264_0, hl264_0, hi264_0⟩ := at_L4 HR0.out x6_1 p264 q264
              cases e264
              replace hx264_0 := (HB.out.cell (World.block_lt_of_cell? w _ hx264_0)).trans hx264_0
              have HR264_0 := Aside0.mk hi264_0
              have HC264_0 := Aside0.mk hl264_0
              clear hi264_0 hl264_0
              replace p264 := eq_true p264
              replace q264 := eq_true q264
              have hcz10_0 : wr.cell? ⟨gb263, 0, none⟩ = some (.int .i64 x264000_1) := (blk_cell BK263.out 0).trans rfl
              have hcz10_1 : wr.cell? ⟨gb263, 1, none⟩ = some (.int .i64 x264001_1) := (blk_cell BK263.out 1).trans rfl
              have hfz10_0 := blk_frozen BK263.out 0
              have hfz10_1 := blk_frozen BK263.out 1
              go_wp2
              refine bodyPost_ret (results_ct rfl _ _ gb263 55 #[.int .i64 x6_1, .int .i64 x1_1] (0, 0) _ rfl (by (with_reducible repeat (first | refine blk_drewN ?_ _ | refine blk_drew ?_ | refine blk_alloc ?_ _)); refine blk_put (cs := #[.int .i64 x6_1, .int .i64 x264001_1]) ?_ 1 _ rfl; (with_reducible repeat (first | refine blk_drewN ?_ _ | refine blk_drew ?_ | refine blk_alloc ?_ _)); refine blk_put (cs := #[.int .i64 x264000_1, .int .i64 x264001_1]) ?_ 0 _ rfl; (with_reducible repeat (first | refine blk_drewN ?_ _ | refine blk_drew ?_ | refine blk_alloc ?_ _)); exact BK263.out) Tryd.underlying55 rfl (by kernel_rfl)) rfl ?_
              exact ⟨by first | rfl | (simp [errW_none, errW_some] <;> rfl) | (simp [*, errW_none, errW_some] <;> rfl), by repeat (first | (with_reducible first | exact HB.out | apply below_alloc | apply pw_below_drewN | apply below_drew1 | refine below_set ?_ GE263.out) | exact HB.out)⟩
            · rw [if_neg c9] at H
              have c9b0 : decide (x1_1 < ((rd_L4 l0 x6_1).length : Int)) = false := decide_eq_false c9
              clear c9
              have H' := Aside0.mk H
              clear H
              have p264 : 0 ≤ (x6_1 : Int) := of_decide_eq_true (by first | (with_reducible assumption) | assumption)
              have q264 : x6_1 < (l0.length : Int) := of_decide_eq_true (by first | (with_reducible assumption) | assumption)
              obtain ⟨ad264, A264_0, c264_0, e264, hx264_0, hl264_0, hi264_0⟩ := at_L4 HR0.out x6_1 p264 q264
              cases e264
              replace hx264_0 := (HB.out.cell (World.block_lt_of_cell? w _ hx264_0)).trans hx264_0
              have HR264_0 := Aside0.mk hi264_0
              have HC264_0 := Aside0.mk hl264_0
              clear hi264_0 hl264_0
              replace p264 := eq_true p264
              replace q264 := eq_true q264
              have p265 : 0 ≤ (x6_1 : Int) := of_decide_eq_true (by first | (with_reducible assumption) | assumption)
              have q265 : x6_1 < (l0.length : Int) := of_decide_eq_true (by first | (with_reducible assumption) | assumption)
              obtain ⟨ad265, A265_0, c265_0, e265, hx265_0, hl265_0, hi265_0⟩ := at_L4 HR0.out x6_1 p265 q265
              obtain rfl : ad264 = ad265 := (by injection e265)
              replace hx265_0 := (HB.out.cell (World.block_lt_of_cell? w _ hx265_0)).trans hx265_0
              have HR265_0 := Aside0.mk hi265_0
              have HC265_0 := Aside0.mk hl265_0
              clear hi265_0 hl265_0
              replace p265 := eq_true p265
              replace q265 := eq_true q265
              have ea_ := Option.some.inj (hx264_0.symm.trans hx265_0)
              injection ea_ with ea_ en_ ec_
              subst ea_
              subst ec_
              clear en_
              go_wp2
              go_roundg k1
              case measure => have := HK1.out; omega
              case rel => exact ⟨(wrap64 (x1_1 - ((rd_L4 l0 x6_1).length : Int))), (wrap64 (x6_1 + 1)), (x264000_1), (x264001_1), (by first | rfl | (simp; done) | (simp [*]; done)), (by first | rfl | (simp; done) | (simp [*]; done)), H', ⟨by have := HK1.out; omega⟩, ⟨by (with_reducible repeat (first | refine blk_drewN ?_ _ | refine blk_drew ?_ | refine blk_alloc ?_ _)); exact BK263.out⟩, ⟨by repeat (first | (with_reducible first | exact HB.out | apply below_alloc | apply pw_below_drewN | apply below_drew1 | refine below_set ?_ GE263.out) | exact HB.out)⟩⟩
          · rw [if_neg c8] at H
            exact absurd H (by simp)
        · rw [if_neg c7] at H
          have c7b0 : decide (x6_1 < (l0.length : Int)) = false := decide_eq_false c7
          clear c7
          simp only [Option.some.injEq, Prod.mk.injEq] at H
          obtain ⟨rfl, rfl, rfl⟩ := H
          have hcz11_0 : wr.cell? ⟨gb263, 0, none⟩ = some (.int .i64 x264000_1) := (blk_cell BK263.out 0).trans rfl
          have hcz11_1 : wr.cell? ⟨gb263, 1, none⟩ = some (.int .i64 x264001_1) := (blk_cell BK263.out 1).trans rfl
          have hfz11_0 := blk_frozen BK263.out 0
          have hfz11_1 := blk_frozen BK263.out 1
          go_wp2
          refine bodyPost_ret (results_ct rfl _ _ gb263 55 #[.int .i64 0, .int .i64 0] (0, 0) _ rfl (by (with_reducible repeat (first | refine blk_drewN ?_ _ | refine blk_drew ?_ | refine blk_alloc ?_ _)); refine blk_put (cs := #[.int .i64 0, .int .i64 x264001_1]) ?_ 1 _ rfl; (with_reducible repeat (first | refine blk_drewN ?_ _ | refine blk_drew ?_ | refine blk_alloc ?_ _)); refine blk_put (cs := #[.int .i64 x264000_1, .int .i64 x264001_1]) ?_ 0 _ rfl; (with_reducible repeat (first | refine blk_drewN ?_ _ | refine blk_drew ?_ | refine blk_alloc ?_ _)); exact BK263.out) Tryd.underlying55 rfl (by kernel_rfl)) rfl ?_
          exact ⟨by first | rfl | (simp [errW_none, errW_some] <;> rfl) | (simp [*, errW_none, errW_some] <;> rfl), by repeat (first | (with_reducible first | exact HB.out | apply below_alloc | apply pw_below_drewN | apply below_drew1 | refine below_set ?_ GE263.out) | exact HB.out)⟩

end Go.Proofs.YtcabnjinfkjnjaaDoor.XH
