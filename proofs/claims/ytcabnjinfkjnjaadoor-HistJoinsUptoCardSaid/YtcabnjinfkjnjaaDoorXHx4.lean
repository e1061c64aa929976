-- Written by a program of this session (xprint.py over the kit's print): functions, their contracts, laws.
import Derived.Test.YtcabnjinfkjnjaaDoorXHx0
import Derived.Test.YtcabnjinfkjnjaaDoorXHx3
import Derived.Test.YtcabnjinfkjnjaaDoorGNum
namespace Go.Proofs.YtcabnjinfkjnjaaDoor.XH
open Go.RowKit Go.Proofs.YtcabnjinfkjnjaaDoorW.PrintWords Go.Proofs.YtcabnjinfkjnjaaDoorW.PrintLast Go.Proofs.YtcabnjinfkjnjaaDoorW.PrintMore Go.Proofs.YtcabnjinfkjnjaaDoor.X
attribute [local go_sem] max2_int min2_int max_two min_two max_three min_three max_four min_four   -- for this text's walks alone
set_option linter.unusedVariables false
set_option linter.unusedSimpArgs false

/-! ### read_cursor_name: function 111 -/
def read_cursor_name.l0 : Nat → Int → ByteArray → Int → Int → Int → Option (ByteArray × ByteArray × Int × Int × Int)
  | 0, _, _, _, _, _ => none
  | k + 1, x3, x1000, x1001, x1002, x1003 => if x1003 = 0 then (if (wrap64 (x1001 - x3)) < 8 then (if x1001 < (x1000.size : Int) then (if 0 ≤ x1001 then (if (bt x1000 x1001) ≥ 97 then (if (bt x1000 x1001) ≤ 122 then (read_cursor_name.l0 k x3 x1000 (wrap64 (x1001 + 1)) x1002 x1003) else (if x1001 = x3 then ((read_cursor_fail.f x1000 x1001 x1002 x1003 2).bind fun bt115 => (if 0 ≤ x3 then (if x3 ≤ bt115.2.1 then (if bt115.2.1 ≤ (bt115.1.size : Int) then (some (bt115.1.extract (x3 : Int).toNat (bt115.2.1 : Int).toNat, bt115.1, bt115.2.1, bt115.2.2.1, bt115.2.2.2)) else (none)) else (none)) else (none))) else (if 0 ≤ x3 then (if x3 ≤ x1001 then (if x1001 ≤ (x1000.size : Int) then (some (x1000.extract (x3 : Int).toNat (x1001 : Int).toNat, x1000, x1001, x1002, x1003)) else (none)) else (none)) else (none)))) else (if x1001 = x3 then ((read_cursor_fail.f x1000 x1001 x1002 x1003 2).bind fun bt119 => (if 0 ≤ x3 then (if x3 ≤ bt119.2.1 then (if bt119.2.1 ≤ (bt119.1.size : Int) then (some (bt119.1.extract (x3 : Int).toNat (bt119.2.1 : Int).toNat, bt119.1, bt119.2.1, bt119.2.2.1, bt119.2.2.2)) else (none)) else (none)) else (none))) else (if 0 ≤ x3 then (if x3 ≤ x1001 then (if x1001 ≤ (x1000.size : Int) then (some (x1000.extract (x3 : Int).toNat (x1001 : Int).toNat, x1000, x1001, x1002, x1003)) else (none)) else (none)) else (none)))) else (none)) else (if x1001 = x3 then ((read_cursor_fail.f x1000 x1001 x1002 x1003 2).bind fun bt123 => (if 0 ≤ x3 then (if x3 ≤ bt123.2.1 then (if bt123.2.1 ≤ (bt123.1.size : Int) then (some (bt123.1.extract (x3 : Int).toNat (bt123.2.1 : Int).toNat, bt123.1, bt123.2.1, bt123.2.2.1, bt123.2.2.2)) else (none)) else (none)) else (none))) else (if 0 ≤ x3 then (if x3 ≤ x1001 then (if x1001 ≤ (x1000.size : Int) then (some (x1000.extract (x3 : Int).toNat (x1001 : Int).toNat, x1000, x1001, x1002, x1003)) else (none)) else (none)) else (none)))) else (if x1001 = x3 then ((read_cursor_fail.f x1000 x1001 x1002 x1003 2).bind fun bt127 => (if 0 ≤ x3 then (if x3 ≤ bt127.2.1 then (if bt127.2.1 ≤ (bt127.1.size : Int) then (some (bt127.1.extract (x3 : Int).toNat (bt127.2.1 : Int).toNat, bt127.1, bt127.2.1, bt127.2.2.1, bt127.2.2.2)) else (none)) else (none)) else (none))) else (if 0 ≤ x3 then (if x3 ≤ x1001 then (if x1001 ≤ (x1000.size : Int) then (some (x1000.extract (x3 : Int).toNat (x1001 : Int).toNat, x1000, x1001, x1002, x1003)) else (none)) else (none)) else (none)))) else (if x1001 = x3 then ((read_cursor_fail.f x1000 x1001 x1002 x1003 2).bind fun bt131 => (if 0 ≤ x3 then (if x3 ≤ bt131.2.1 then (if bt131.2.1 ≤ (bt131.1.size : Int) then (some (bt131.1.extract (x3 : Int).toNat (bt131.2.1 : Int).toNat, bt131.1, bt131.2.1, bt131.2.2.1, bt131.2.2.2)) else (none)) else (none)) else (none))) else (if 0 ≤ x3 then (if x3 ≤ x1001 then (if x1001 ≤ (x1000.size : Int) then (some (x1000.extract (x3 : Int).toNat (x1001 : Int).toNat, x1000, x1001, x1002, x1003)) else (none)) else (none)) else (none)))
def read_cursor_name.f (k : Nat) (s0_0 : ByteArray) (s0_1 : Int) (s0_2 : Int) (s0_3 : Int) : Option (ByteArray × ByteArray × Int × Int × Int) := read_cursor_name.l0 k s0_1 s0_0 s0_1 s0_2 s0_3
theorem read_cursor_name.mono_l : ∀ k, (∀ y0 y1 y2 y3 y4, LeO (read_cursor_name.l0 k y0 y1 y2 y3 y4) (read_cursor_name.l0 (k + 1) y0 y1 y2 y3 y4))
  | 0 => fun _ _ _ _ _ r h => by simp [read_cursor_name.l0] at h
  | k + 1 => by
    have ih0 := read_cursor_name.mono_l k
    · intro y0 y1 y2 y3 y4
      unfold read_cursor_name.l0
      repeat' first
      | (with_reducible exact ih0 _ _ _ _ _)
      | (with_reducible exact LeO.refl _)
      | (with_reducible exact LeO.none _)
      | (with_reducible refine LeO.ite ?_ ?_)
      | (with_reducible refine LeO.bind ?_ (fun _ => ?_))
      | exact ih0 _ _ _ _ _
      | exact LeO.none _
      | refine LeO.ite ?_ ?_
      | refine LeO.bind ?_ (fun _ => ?_)
theorem read_cursor_name.mono : ∀ a0 a1 a2 a3 k, LeO (read_cursor_name.f k a0 a1 a2 a3) (read_cursor_name.f (k + 1) a0 a1 a2 a3) := by
  intro a0 a1 a2 a3 k
  have ih0 := read_cursor_name.mono_l k
  unfold read_cursor_name.f
  repeat' first
      | (with_reducible exact ih0 _ _ _ _ _)
      | (with_reducible exact LeO.refl _)
      | (with_reducible exact LeO.none _)
      | (with_reducible refine LeO.ite ?_ ?_)
      | (with_reducible refine LeO.bind ?_ (fun _ => ?_))
      | exact ih0 _ _ _ _ _
      | exact LeO.none _
      | refine LeO.ite ?_ ?_
      | refine LeO.bind ?_ (fun _ => ?_)
set_option maxHeartbeats 8000000 in
set_option maxRecDepth 100000 in
theorem read_cursor_name.calls (k : Nat) (g : Nat) (s0_0 : ByteArray) (s0_1 : Int) (s0_2 : Int) (s0_3 : Int) (r1 : ByteArray) (r2 : ByteArray) (r3 : Int) (r4 : Int) (r5 : Int) (w0 w : World) (hI : IsS110 w0 w g s0_0 s0_1 s0_2 s0_3) (hB : Below w0.heap.size w0 w) (h : read_cursor_name.f k s0_0 s0_1 s0_2 s0_3 = some (r1, r2, r3, r4, r5)) :
    Calls Tryd.prog 111 #[.pointer (some ⟨g, 0, none⟩)] w fun e w' => e = .returned (.string r1) ∧ IsS110 w0 w' g r2 r3 r4 r5 ∧ Below w0.heap.size w0 w' ∧ KeepBut w w' g none := by
  have HI0 := Aside0.mk hI
  have HK := Aside0.mk (KeepBut.refl w g none)
  have HL := Aside0.mk hB.size
  clear hI
  have HW0 := Aside0.mk hB.size
  have HB := Aside0.mk hB
  clear hB
  have H : (read_cursor_name.l0 k s0_1 s0_0 s0_1 s0_2 s0_3) = some (r1, r2, r3, r4, r5) := h
  clear h
  have H' := Aside0.mk H
  clear H
  obtain ⟨HGz2, hgz2⟩ := HI0.out
  have hcz2_0 := cellS110_0 HGz2
  have hcz2_1 := cellS110_1 HGz2
  have hcz2_2 := cellS110_2 HGz2
  have hcz2_3 := cellS110_3 HGz2
  have hfz2_0 := blk_frozen HGz2 0
  have hfz2_1 := blk_frozen HGz2 1
  have hfz2_2 := blk_frozen HGz2 2
  have hfz2_3 := blk_frozen HGz2 3
  clear HGz2 hgz2
  go_enter Tryd.func111, Tryd.ntmps111
  go_wp2
  repeat (go_quiet (fail); try go_wp2)
  go_loopg [] k (fun kq w' => ∃ (x1001_1 : Int), Aside0 (read_cursor_name.l0 kq s0_1 s0_0 x1001_1 s0_2 s0_3 = some (r1, r2, r3, r4, r5)) ∧ Aside0 (kq ≤ k) ∧ Aside0 (IsS110 w0 w' g s0_0 x1001_1 s0_2 s0_3) ∧ Aside0 (KeepBut w w' g none) ∧ Aside0 (Below w0.heap.size w0 w'))
  case atStart => exact ⟨(s0_1), H', ⟨Nat.le_refl _⟩, ⟨by repeat (first | (with_reducible first | exact HI0.out | apply IsS110.alloc | apply IsS110.drewN | apply IsS110.drew | apply IsS110.set_0 | apply IsS110.set_1 | apply IsS110.set_2 | apply IsS110.set_3) | exact HI0.out)⟩, ⟨by repeat (first | (with_reducible first | exact HK.out | apply KeepBut.set_ | apply keep_drewN | apply keep_drew | apply keep_alloc) | exact HK.out)⟩, ⟨by repeat (first | (with_reducible first | exact HB.out | apply below_alloc | apply pw_below_drewN | apply below_drew1 | refine below_set ?_ (IsS110.ge HI0.out)) | exact HB.out)⟩⟩
  case round =>
    clear H'
    try clear c1
    try clear p2
    try clear hcz2_0
    try clear hcz2_1
    try clear hcz2_2
    try clear hcz2_3
    try clear hfz2_0
    try clear hfz2_1
    try clear hfz2_2
    try clear hfz2_3
    obtain ⟨x1001_1, HA, HK1, HI0, HK, HB⟩ := hrel
    cases gk with
    | zero => exact absurd HA.out (by simp [read_cursor_name.l0])
    | succ k1 =>
      have H := HA.out
      clear HA
      simp only [read_cursor_name.l0] at H
      by_cases c3 : s0_3 = 0
      · rw [if_pos c3] at H
        have c3b0 : (s0_3 == 0) = true := beq_iff_eq.mpr c3
        have c3b1 : (s0_3 != 0) = false := bne_eq_false_iff_eq.mpr c3
        clear c3
        by_cases c4 : (wrap64 (x1001_1 - s0_1)) < 8
        · rw [if_pos c4] at H
          have c4b0 : decide ((wrap64 (x1001_1 - s0_1)) < 8) = true := decide_eq_true c4
          clear c4
          by_cases c5 : x1001_1 < (s0_0.size : Int)
          · rw [if_pos c5] at H
            have c5b0 : decide (x1001_1 < (s0_0.size : Int)) = true := decide_eq_true c5
            clear c5
            by_cases c6 : 0 ≤ x1001_1
            · rw [if_pos c6] at H
              have c6b0 : decide (0 ≤ x1001_1) = true := decide_eq_true c6
              clear c6
              by_cases c8 : (bt s0_0 x1001_1) ≥ 97
              · rw [if_pos c8] at H
                have c8b0 : decide (97 ≤ (bt s0_0 x1001_1)) = true := decide_eq_true c8
                clear c8
                by_cases c10 : (bt s0_0 x1001_1) ≤ 122
                · rw [if_pos c10] at H
                  have c10b0 : decide ((bt s0_0 x1001_1) ≤ 122) = true := decide_eq_true c10
                  clear c10
                  have H' := Aside0.mk H
                  clear H
                  obtain ⟨HGz11, hgz11⟩ := HI0.out
                  have hcz11_0 := cellS110_0 HGz11
                  have hcz11_1 := cellS110_1 HGz11
                  have hcz11_2 := cellS110_2 HGz11
                  have hcz11_3 := cellS110_3 HGz11
                  have hfz11_0 := blk_frozen HGz11 0
                  have hfz11_1 := blk_frozen HGz11 1
                  have hfz11_2 := blk_frozen HGz11 2
                  have hfz11_3 := blk_frozen HGz11 3
                  clear HGz11 hgz11
                  have p7 : 0 ≤ (x1001_1 : Int) := of_decide_eq_true (by first | (with_reducible assumption) | assumption)
                  have q7 : x1001_1 < (s0_0.size : Int) := of_decide_eq_true (by first | (with_reducible assumption) | assumption)
                  have hx7 := bt_at s0_0 x1001_1
                  replace p7 := eq_true p7
                  replace q7 := eq_true q7
                  have p9 : 0 ≤ (x1001_1 : Int) := of_decide_eq_true (by first | (with_reducible assumption) | assumption)
                  have q9 : x1001_1 < (s0_0.size : Int) := of_decide_eq_true (by first | (with_reducible assumption) | assumption)
                  have hx9 := bt_at s0_0 x1001_1
                  replace p9 := eq_true p9
                  replace q9 := eq_true q9
                  go_wp2
                  repeat (go_quiet (fail); try go_wp2)
                  go_roundg k1
                  case measure => have := HK1.out; omega
                  case rel => exact ⟨(wrap64 (x1001_1 + 1)), H', ⟨by have := HK1.out; omega⟩, ⟨by repeat (first | (with_reducible first | exact HI0.out | apply IsS110.alloc | apply IsS110.drewN | apply IsS110.drew | apply IsS110.set_0 | apply IsS110.set_1 | apply IsS110.set_2 | apply IsS110.set_3) | exact HI0.out)⟩, ⟨by repeat (first | (with_reducible first | exact HK.out | apply KeepBut.set_ | apply keep_drewN | apply keep_drew | apply keep_alloc) | exact HK.out)⟩, ⟨by repeat (first | (with_reducible first | exact HB.out | apply below_alloc | apply pw_below_drewN | apply below_drew1 | refine below_set ?_ (IsS110.ge HI0.out)) | exact HB.out)⟩⟩
                · rw [if_neg c10] at H
                  have c10b0 : decide ((bt s0_0 x1001_1) ≤ 122) = false := decide_eq_false c10
                  clear c10
                  by_cases c12 : x1001_1 = s0_1
                  · rw [if_pos c12] at H
                    have c12b0 : (x1001_1 == s0_1) = true := beq_iff_eq.mpr c12
                    have c12b1 : (x1001_1 != s0_1) = false := bne_eq_false_iff_eq.mpr c12
                    clear c12
                    replace H := Option.bind_eq_some_iff.mp H
                    obtain ⟨⟨t115, t116, t117, t118⟩, A130, H⟩ := H
                    replace H : (if 0 ≤ s0_1 then (if s0_1 ≤ t116 then (if t116 ≤ (t115.size : Int) then (some (t115.extract (s0_1 : Int).toNat (t116 : Int).toNat, t115, t116, t117, t118)) else (none)) else (none)) else (none)) = some (r1, r2, r3, r4, r5) := H
                    have A13 := Aside0.mk A130
                    clear A130
                    by_cases c14 : 0 ≤ s0_1
                    · rw [if_pos c14] at H
                      have c14b0 := eq_true c14
                      have c14b1 : decide (0 ≤ s0_1) = true := decide_eq_true c14
                      clear c14
                      by_cases c15 : s0_1 ≤ t116
                      · rw [if_pos c15] at H
                        have c15b0 := eq_true c15
                        have c15b1 : decide (s0_1 ≤ t116) = true := decide_eq_true c15
                        clear c15
                        by_cases c16 : t116 ≤ (t115.size : Int)
                        · rw [if_pos c16] at H
                          have c16b0 := eq_true c16
                          have c16b1 : decide (t116 ≤ (t115.size : Int)) = true := decide_eq_true c16
                          clear c16
                          simp only [Option.some.injEq, Prod.mk.injEq] at H
                          obtain ⟨rfl, rfl, rfl, rfl, rfl⟩ := H
                          obtain ⟨HGz17, hgz17⟩ := HI0.out
                          have hcz17_0 := cellS110_0 HGz17
                          have hcz17_1 := cellS110_1 HGz17
                          have hcz17_2 := cellS110_2 HGz17
                          have hcz17_3 := cellS110_3 HGz17
                          have hfz17_0 := blk_frozen HGz17 0
                          have hfz17_1 := blk_frozen HGz17 1
                          have hfz17_2 := blk_frozen HGz17 2
                          have hfz17_3 := blk_frozen HGz17 3
                          clear HGz17 hgz17
                          have p7 : 0 ≤ (x1001_1 : Int) := of_decide_eq_true (by first | (with_reducible assumption) | assumption)
                          have q7 : x1001_1 < (s0_0.size : Int) := of_decide_eq_true (by first | (with_reducible assumption) | assumption)
                          have hx7 := bt_at s0_0 x1001_1
                          replace p7 := eq_true p7
                          replace q7 := eq_true q7
                          have p9 : 0 ≤ (x1001_1 : Int) := of_decide_eq_true (by first | (with_reducible assumption) | assumption)
                          have q9 : x1001_1 < (s0_0.size : Int) := of_decide_eq_true (by first | (with_reducible assumption) | assumption)
                          have hx9 := bt_at s0_0 x1001_1
                          replace p9 := eq_true p9
                          replace q9 := eq_true q9
                          go_wp2_with (first | (go_at_call 110; (with_reducible refine (read_cursor_fail.calls g s0_0 x1001_1 s0_2 s0_3 2 t115 t116 t117 t118 w0 _ ?side1 ?side2 A13.out).mono ?_); (case side1 => repeat (first | (with_reducible first | exact HI0.out | apply IsS110.alloc | apply IsS110.drewN | apply IsS110.drew | apply IsS110.set_0 | apply IsS110.set_1 | apply IsS110.set_2 | apply IsS110.set_3) | exact HI0.out)); (case side2 => repeat (first | (with_reducible first | exact HB.out | apply below_alloc | apply pw_below_drewN | apply below_drew1 | refine below_set ?_ (IsS110.ge HI0.out)) | exact HB.out)); rintro e w18 ⟨rfl, hi, hb, hk⟩; have n0_ := Aside0.mk (KeepBut.trans (by repeat (first | (with_reducible first | exact HK.out | apply KeepBut.set_ | apply keep_drewN | apply keep_drew | apply keep_alloc) | exact HK.out)) hk (.inl rfl)); have n1_ := Aside0.mk (hb); have n2_ := Aside0.mk (hi); clear HK; clear HB; clear HI0; have HK := n0_; have HB := n1_; have HI0 := n2_; clear n0_ n1_ n2_; (try clear hb); (try clear hb2); (try clear hk); (try clear hi); obtain ⟨HGz19, hgz19⟩ := HI0.out; have hcz19_0 := cellS110_0 HGz19; have hcz19_1 := cellS110_1 HGz19; have hcz19_2 := cellS110_2 HGz19; have hcz19_3 := cellS110_3 HGz19; have hfz19_0 := blk_frozen HGz19 0; have hfz19_1 := blk_frozen HGz19 1; have hfz19_2 := blk_frozen HGz19 2; have hfz19_3 := blk_frozen HGz19 3; clear HGz19 hgz19))
                          repeat (go_quiet (first | (go_at_call 110; (with_reducible refine (read_cursor_fail.calls g s0_0 x1001_1 s0_2 s0_3 2 t115 t116 t117 t118 w0 _ ?side1 ?side2 A13.out).mono ?_); (case side1 => repeat (first | (with_reducible first | exact HI0.out | apply IsS110.alloc | apply IsS110.drewN | apply IsS110.drew | apply IsS110.set_0 | apply IsS110.set_1 | apply IsS110.set_2 | apply IsS110.set_3) | exact HI0.out)); (case side2 => repeat (first | (with_reducible first | exact HB.out | apply below_alloc | apply pw_below_drewN | apply below_drew1 | refine below_set ?_ (IsS110.ge HI0.out)) | exact HB.out)); rintro e w18 ⟨rfl, hi, hb, hk⟩; have n0_ := Aside0.mk (KeepBut.trans (by repeat (first | (with_reducible first | exact HK.out | apply KeepBut.set_ | apply keep_drewN | apply keep_drew | apply keep_alloc) | exact HK.out)) hk (.inl rfl)); have n1_ := Aside0.mk (hb); have n2_ := Aside0.mk (hi); clear HK; clear HB; clear HI0; have HK := n0_; have HB := n1_; have HI0 := n2_; clear n0_ n1_ n2_; (try clear hb); (try clear hb2); (try clear hk); (try clear hi); obtain ⟨HGz19, hgz19⟩ := HI0.out; have hcz19_0 := cellS110_0 HGz19; have hcz19_1 := cellS110_1 HGz19; have hcz19_2 := cellS110_2 HGz19; have hcz19_3 := cellS110_3 HGz19; have hfz19_0 := blk_frozen HGz19 0; have hfz19_1 := blk_frozen HGz19 1; have hfz19_2 := blk_frozen HGz19 2; have hfz19_3 := blk_frozen HGz19 3; clear HGz19 hgz19)); try go_wp2_with (first | (go_at_call 110; (with_reducible refine (read_cursor_fail.calls g s0_0 x1001_1 s0_2 s0_3 2 t115 t116 t117 t118 w0 _ ?side1 ?side2 A13.out).mono ?_); (case side1 => repeat (first | (with_reducible first | exact HI0.out | apply IsS110.alloc | apply IsS110.drewN | apply IsS110.drew | apply IsS110.set_0 | apply IsS110.set_1 | apply IsS110.set_2 | apply IsS110.set_3) | exact HI0.out)); (case side2 => repeat (first | (with_reducible first | exact HB.out | apply below_alloc | apply pw_below_drewN | apply below_drew1 | refine below_set ?_ (IsS110.ge HI0.out)) | exact HB.out)); rintro e w18 ⟨rfl, hi, hb, hk⟩; have n0_ := Aside0.mk (KeepBut.trans (by repeat (first | (with_reducible first | exact HK.out | apply KeepBut.set_ | apply keep_drewN | apply keep_drew | apply keep_alloc) | exact HK.out)) hk (.inl rfl)); have n1_ := Aside0.mk (hb); have n2_ := Aside0.mk (hi); clear HK; clear HB; clear HI0; have HK := n0_; have HB := n1_; have HI0 := n2_; clear n0_ n1_ n2_; (try clear hb); (try clear hb2); (try clear hk); (try clear hi); obtain ⟨HGz19, hgz19⟩ := HI0.out; have hcz19_0 := cellS110_0 HGz19; have hcz19_1 := cellS110_1 HGz19; have hcz19_2 := cellS110_2 HGz19; have hcz19_3 := cellS110_3 HGz19; have hfz19_0 := blk_frozen HGz19 0; have hfz19_1 := blk_frozen HGz19 1; have hfz19_2 := blk_frozen HGz19 2; have hfz19_3 := blk_frozen HGz19 3; clear HGz19 hgz19)))
                          go_ret
                          exact ⟨by first | rfl | (simp [errW_none, errW_some] <;> rfl) | (simp [*, errW_none, errW_some] <;> rfl), by repeat (first | (with_reducible first | exact HI0.out | apply IsS110.alloc | apply IsS110.drewN | apply IsS110.drew | apply IsS110.set_0 | apply IsS110.set_1 | apply IsS110.set_2 | apply IsS110.set_3) | exact HI0.out), by repeat (first | (with_reducible first | exact HB.out | apply below_alloc | apply pw_below_drewN | apply below_drew1 | refine below_set ?_ (IsS110.ge HI0.out)) | exact HB.out), by repeat (first | (with_reducible first | exact HK.out | apply KeepBut.set_ | apply keep_drewN | apply keep_drew | apply keep_alloc) | exact HK.out)⟩
                        · rw [if_neg c16] at H
                          exact absurd H (by simp)
                      · rw [if_neg c15] at H
                        exact absurd H (by simp)
                    · rw [if_neg c14] at H
                      exact absurd H (by simp)
                  · rw [if_neg c12] at H
                    have c12b0 : (x1001_1 == s0_1) = false := beq_eq_false_iff_ne.mpr c12
                    have c12b1 : (x1001_1 != s0_1) = true := bne_iff_ne.mpr c12
                    by_cases c20 : 0 ≤ s0_1
                    · rw [if_pos c20] at H
                      have c20b0 := eq_true c20
                      have c20b1 : decide (0 ≤ s0_1) = true := decide_eq_true c20
                      clear c20
                      by_cases c21 : s0_1 ≤ x1001_1
                      · rw [if_pos c21] at H
                        have c21b0 := eq_true c21
                        have c21b1 : decide (s0_1 ≤ x1001_1) = true := decide_eq_true c21
                        clear c21
                        by_cases c22 : x1001_1 ≤ (s0_0.size : Int)
                        · rw [if_pos c22] at H
                          have c22b0 := eq_true c22
                          have c22b1 : decide (x1001_1 ≤ (s0_0.size : Int)) = true := decide_eq_true c22
                          clear c22
                          simp only [Option.some.injEq, Prod.mk.injEq] at H
                          obtain ⟨rfl, rfl, rfl, rfl, rfl⟩ := H
                          obtain ⟨HGz23, hgz23⟩ := HI0.out
                          have hcz23_0 := cellS110_0 HGz23
                          have hcz23_1 := cellS110_1 HGz23
                          have hcz23_2 := cellS110_2 HGz23
                          have hcz23_3 := cellS110_3 HGz23
                          have hfz23_0 := blk_frozen HGz23 0
                          have hfz23_1 := blk_frozen HGz23 1
                          have hfz23_2 := blk_frozen HGz23 2
                          have hfz23_3 := blk_frozen HGz23 3
                          clear HGz23 hgz23
                          have p7 : 0 ≤ (x1001_1 : Int) := of_decide_eq_true (by first | (with_reducible assumption) | assumption)
                          have q7 : x1001_1 < (s0_0.size : Int) := of_decide_eq_true (by first | (with_reducible assumption) | assumption)
                          have hx7 := bt_at s0_0 x1001_1
                          replace p7 := eq_true p7
                          replace q7 := eq_true q7
                          have p9 : 0 ≤ (x1001_1 : Int) := of_decide_eq_true (by first | (with_reducible assumption) | assumption)
                          have q9 : x1001_1 < (s0_0.size : Int) := of_decide_eq_true (by first | (with_reducible assumption) | assumption)
                          have hx9 := bt_at s0_0 x1001_1
                          replace p9 := eq_true p9
                          replace q9 := eq_true q9
                          go_wp2
                          repeat (go_quiet (fail); try go_wp2)
                          go_ret
                          exact ⟨by first | rfl | (simp [errW_none, errW_some] <;> rfl) | (simp [*, errW_none, errW_some] <;> rfl), by repeat (first | (with_reducible first | exact HI0.out | apply IsS110.alloc | apply IsS110.drewN | apply IsS110.drew | apply IsS110.set_0 | apply IsS110.set_1 | apply IsS110.set_2 | apply IsS110.set_3) | exact HI0.out), by repeat (first | (with_reducible first | exact HB.out | apply below_alloc | apply pw_below_drewN | apply below_drew1 | refine below_set ?_ (IsS110.ge HI0.out)) | exact HB.out), by repeat (first | (with_reducible first | exact HK.out | apply KeepBut.set_ | apply keep_drewN | apply keep_drew | apply keep_alloc) | exact HK.out)⟩
                        · rw [if_neg c22] at H
                          exact absurd H (by simp)
                      · rw [if_neg c21] at H
                        exact absurd H (by simp)
                    · rw [if_neg c20] at H
                      exact absurd H (by simp)
              · rw [if_neg c8] at H
                have c8b0 : decide (97 ≤ (bt s0_0 x1001_1)) = false := decide_eq_false c8
                clear c8
                by_cases c24 : x1001_1 = s0_1
                · rw [if_pos c24] at H
                  have c24b0 : (x1001_1 == s0_1) = true := beq_iff_eq.mpr c24
                  have c24b1 : (x1001_1 != s0_1) = false := bne_eq_false_iff_eq.mpr c24
                  clear c24
                  replace H := Option.bind_eq_some_iff.mp H
                  obtain ⟨⟨t119, t120, t121, t122⟩, A250, H⟩ := H
                  replace H : (if 0 ≤ s0_1 then (if s0_1 ≤ t120 then (if t120 ≤ (t119.size : Int) then (some (t119.extract (s0_1 : Int).toNat (t120 : Int).toNat, t119, t120, t121, t122)) else (none)) else (none)) else (none)) = some (r1, r2, r3, r4, r5) := H
                  have A25 := Aside0.mk A250
                  clear A250
                  by_cases c26 : 0 ≤ s0_1
                  · rw [if_pos c26] at H
                    have c26b0 := eq_true c26
                    have c26b1 : decide (0 ≤ s0_1) = true := decide_eq_true c26
                    clear c26
                    by_cases c27 : s0_1 ≤ t120
                    · rw [if_pos c27] at H
                      have c27b0 := eq_true c27
                      have c27b1 : decide (s0_1 ≤ t120) = true := decide_eq_true c27
                      clear c27
                      by_cases c28 : t120 ≤ (t119.size : Int)
                      · rw [if_pos c28] at H
                        have c28b0 := eq_true c28
                        have c28b1 : decide (t120 ≤ (t119.size : Int)) = true := decide_eq_true c28
                        clear c28
                        simp only [Option.some.injEq, Prod.mk.injEq] at H
                        obtain ⟨rfl, rfl, rfl, rfl, rfl⟩ := H
                        obtain ⟨HGz29, hgz29⟩ := HI0.out
                        have hcz29_0 := cellS110_0 HGz29
                        have hcz29_1 := cellS110_1 HGz29
                        have hcz29_2 := cellS110_2 HGz29
                        have hcz29_3 := cellS110_3 HGz29
                        have hfz29_0 := blk_frozen HGz29 0
                        have hfz29_1 := blk_frozen HGz29 1
                        have hfz29_2 := blk_frozen HGz29 2
                        have hfz29_3 := blk_frozen HGz29 3
                        clear HGz29 hgz29
                        have p7 : 0 ≤ (x1001_1 : Int) := of_decide_eq_true (by first | (with_reducible assumption) | assumption)
                        have q7 : x1001_1 < (s0_0.size : Int) := of_decide_eq_true (by first | (with_reducible assumption) | assumption)
                        have hx7 := bt_at s0_0 x1001_1
                        replace p7 := eq_true p7
                        replace q7 := eq_true q7
                        go_wp2_with (first | (go_at_call 110; (with_reducible refine (read_cursor_fail.calls g s0_0 x1001_1 s0_2 s0_3 2 t119 t120 t121 t122 w0 _ ?side1 ?side2 A25.out).mono ?_); (case side1 => repeat (first | (with_reducible first | exact HI0.out | apply IsS110.alloc | apply IsS110.drewN | apply IsS110.drew | apply IsS110.set_0 | apply IsS110.set_1 | apply IsS110.set_2 | apply IsS110.set_3) | exact HI0.out)); (case side2 => repeat (first | (with_reducible first | exact HB.out | apply below_alloc | apply pw_below_drewN | apply below_drew1 | refine below_set ?_ (IsS110.ge HI0.out)) | exact HB.out)); rintro e w30 ⟨rfl, hi, hb, hk⟩; have n0_ := Aside0.mk (KeepBut.trans (by repeat (first | (with_reducible first | exact HK.out | apply KeepBut.set_ | apply keep_drewN | apply keep_drew | apply keep_alloc) | exact HK.out)) hk (.inl rfl)); have n1_ := Aside0.mk (hb); have n2_ := Aside0.mk (hi); clear HK; clear HB; clear HI0; have HK := n0_; have HB := n1_; have HI0 := n2_; clear n0_ n1_ n2_; (try clear hb); (try clear hb2); (try clear hk); (try clear hi); obtain ⟨HGz31, hgz31⟩ := HI0.out; have hcz31_0 := cellS110_0 HGz31; have hcz31_1 := cellS110_1 HGz31; have hcz31_2 := cellS110_2 HGz31; have hcz31_3 := cellS110_3 HGz31; have hfz31_0 := blk_frozen HGz31 0; have hfz31_1 := blk_frozen HGz31 1; have hfz31_2 := blk_frozen HGz31 2; have hfz31_3 := blk_frozen HGz31 3; clear HGz31 hgz31))
                        repeat (go_quiet (first | (go_at_call 110; (with_reducible refine (read_cursor_fail.calls g s0_0 x1001_1 s0_2 s0_3 2 t119 t120 t121 t122 w0 _ ?side1 ?side2 A25.out).mono ?_); (case side1 => repeat (first | (with_reducible first | exact HI0.out | apply IsS110.alloc | apply IsS110.drewN | apply IsS110.drew | apply IsS110.set_0 | apply IsS110.set_1 | apply IsS110.set_2 | apply IsS110.set_3) | exact HI0.out)); (case side2 => repeat (first | (with_reducible first | exact HB.out | apply below_alloc | apply pw_below_drewN | apply below_drew1 | refine below_set ?_ (IsS110.ge HI0.out)) | exact HB.out)); rintro e w30 ⟨rfl, hi, hb, hk⟩; have n0_ := Aside0.mk (KeepBut.trans (by repeat (first | (with_reducible first | exact HK.out | apply KeepBut.set_ | apply keep_drewN | apply keep_drew | apply keep_alloc) | exact HK.out)) hk (.inl rfl)); have n1_ := Aside0.mk (hb); have n2_ := Aside0.mk (hi); clear HK; clear HB; clear HI0; have HK := n0_; have HB := n1_; have HI0 := n2_; clear n0_ n1_ n2_; (try clear hb); (try clear hb2); (try clear hk); (try clear hi); obtain ⟨HGz31, hgz31⟩ := HI0.out; have hcz31_0 := cellS110_0 HGz31; have hcz31_1 := cellS110_1 HGz31; have hcz31_2 := cellS110_2 HGz31; have hcz31_3 := cellS110_3 HGz31; have hfz31_0 := blk_frozen HGz31 0; have hfz31_1 := blk_frozen HGz31 1; have hfz31_2 := blk_frozen HGz31 2; have hfz31_3 := blk_frozen HGz31 3; clear HGz31 hgz31)); try go_wp2_with (first | (go_at_call 110; (with_reducible refine (read_cursor_fail.calls g s0_0 x1001_1 s0_2 s0_3 2 t119 t120 t121 t122 w0 _ ?side1 ?side2 A25.out).mono ?_); (case side1 => repeat (first | (with_reducible first | exact HI0.out | apply IsS110.alloc | apply IsS110.drewN | apply IsS110.drew | apply IsS110.set_0 | apply IsS110.set_1 | apply IsS110.set_2 | apply IsS110.set_3) | exact HI0.out)); (case side2 => repeat (first | (with_reducible first | exact HB.out | apply below_alloc | apply pw_below_drewN | apply below_drew1 | refine below_set ?_ (IsS110.ge HI0.out)) | exact HB.out)); rintro e w30 ⟨rfl, hi, hb, hk⟩; have n0_ := Aside0.mk (KeepBut.trans (by repeat (first | (with_reducible first | exact HK.out | apply KeepBut.set_ | apply keep_drewN | apply keep_drew | apply keep_alloc) | exact HK.out)) hk (.inl rfl)); have n1_ := Aside0.mk (hb); have n2_ := Aside0.mk (hi); clear HK; clear HB; clear HI0; have HK := n0_; have HB := n1_; have HI0 := n2_; clear n0_ n1_ n2_; (try clear hb); (try clear hb2); (try clear hk); (try clear hi); obtain ⟨HGz31, hgz31⟩ := HI0.out; have hcz31_0 := cellS110_0 HGz31; have hcz31_1 := cellS110_1 HGz31; have hcz31_2 := cellS110_2 HGz31; have hcz31_3 := cellS110_3 HGz31; have hfz31_0 := blk_frozen HGz31 0; have hfz31_1 := blk_frozen HGz31 1; have hfz31_2 := blk_frozen HGz31 2; have hfz31_3 := blk_frozen HGz31 3; clear HGz31 hgz31)))
                        go_ret
                        exact ⟨by first | rfl | (simp [errW_none, errW_some] <;> rfl) | (simp [*, errW_none, errW_some] <;> rfl), by repeat (first | (with_reducible first | exact HI0.out | apply IsS110.alloc | apply IsS110.drewN | apply IsS110.drew | apply IsS110.set_0 | apply IsS110.set_1 | apply IsS110.set_2 | apply IsS110.set_3) | exact HI0.out), by repeat (first | (with_reducible first | exact HB.out | apply below_alloc | apply pw_below_drewN | apply below_drew1 | refine below_set ?_ (IsS110.ge HI0.out)) | exact HB.out), by repeat (first | (with_reducible first | exact HK.out | apply KeepBut.set_ | apply keep_drewN | apply keep_drew | apply keep_alloc) | exact HK.out)⟩
                      · rw [if_neg c28] at H
                        exact absurd H (by simp)
                    · rw [if_neg c27] at H
                      exact absurd H (by simp)
                  · rw [if_neg c26] at H
                    exact absurd H (by simp)
                · rw [if_neg c24] at H
                  have c24b0 : (x1001_1 == s0_1) = false := beq_eq_false_iff_ne.mpr c24
                  have c24b1 : (x1001_1 != s0_1) = true := bne_iff_ne.mpr c24
                  by_cases c32 : 0 ≤ s0_1
                  · rw [if_pos c32] at H
                    have c32b0 := eq_true c32
                    have c32b1 : decide (0 ≤ s0_1) = true := decide_eq_true c32
                    clear c32
                    by_cases c33 : s0_1 ≤ x1001_1
                    · rw [if_pos c33] at H
                      have c33b0 := eq_true c33
                      have c33b1 : decide (s0_1 ≤ x1001_1) = true := decide_eq_true c33
                      clear c33
                      by_cases c34 : x1001_1 ≤ (s0_0.size : Int)
                      · rw [if_pos c34] at H
                        have c34b0 := eq_true c34
                        have c34b1 : decide (x1001_1 ≤ (s0_0.size : Int)) = true := decide_eq_true c34
                        clear c34
                        simp only [Option.some.injEq, Prod.mk.injEq] at H
                        obtain ⟨rfl, rfl, rfl, rfl, rfl⟩ := H
                        obtain ⟨HGz35, hgz35⟩ := HI0.out
                        have hcz35_0 := cellS110_0 HGz35
                        have hcz35_1 := cellS110_1 HGz35
                        have hcz35_2 := cellS110_2 HGz35
                        have hcz35_3 := cellS110_3 HGz35
                        have hfz35_0 := blk_frozen HGz35 0
                        have hfz35_1 := blk_frozen HGz35 1
                        have hfz35_2 := blk_frozen HGz35 2
                        have hfz35_3 := blk_frozen HGz35 3
                        clear HGz35 hgz35
                        have p7 : 0 ≤ (x1001_1 : Int) := of_decide_eq_true (by first | (with_reducible assumption) | assumption)
                        have q7 : x1001_1 < (s0_0.size : Int) := of_decide_eq_true (by first | (with_reducible assumption) | assumption)
                        have hx7 := bt_at s0_0 x1001_1
                        replace p7 := eq_true p7
                        replace q7 := eq_true q7
                        go_wp2
                        repeat (go_quiet (fail); try go_wp2)
                        go_ret
                        exact ⟨by first | rfl | (simp [errW_none, errW_some] <;> rfl) | (simp [*, errW_none, errW_some] <;> rfl), by repeat (first | (with_reducible first | exact HI0.out | apply IsS110.alloc | apply IsS110.drewN | apply IsS110.drew | apply IsS110.set_0 | apply IsS110.set_1 | apply IsS110.set_2 | apply IsS110.set_3) | exact HI0.out), by repeat (first | (with_reducible first | exact HB.out | apply below_alloc | apply pw_below_drewN | apply below_drew1 | refine below_set ?_ (IsS110.ge HI0.out)) | exact HB.out), by repeat (first | (with_reducible first | exact HK.out | apply KeepBut.set_ | apply keep_drewN | apply keep_drew | apply keep_alloc) | exact HK.out)⟩
                      · rw [if_neg c34] at H
                        exact absurd H (by simp)
                    · rw [if_neg c33] at H
                      exact absurd H (by simp)
                  · rw [if_neg c32] at H
                    exact absurd H (by simp)
            · rw [if_neg c6] at H
              exact absurd H (by simp)
          · rw [if_neg c5] at H
            have c5b0 : decide (x1001_1 < (s0_0.size : Int)) = false := decide_eq_false c5
            clear c5
            by_cases c36 : x1001_1 = s0_1
            · rw [if_pos c36] at H
              have c36b0 : (x1001_1 == s0_1) = true := beq_iff_eq.mpr c36
              have c36b1 : (x1001_1 != s0_1) = false := bne_eq_false_iff_eq.mpr c36
              clear c36
              replace H := Option.bind_eq_some_iff.mp H
              obtain ⟨⟨t123, t124, t125, t126⟩, A370, H⟩ := H
              replace H : (if 0 ≤ s0_1 then (if s0_1 ≤ t124 then (if t124 ≤ (t123.size : Int) then (some (t123.extract (s0_1 : Int).toNat (t124 : Int).toNat, t123, t124, t125, t126)) else (none)) else (none)) else (none)) = some (r1, r2, r3, r4, r5) := H
              have A37 := Aside0.mk A370
              clear A370
              by_cases c38 : 0 ≤ s0_1
              · rw [if_pos c38] at H
                have c38b0 := eq_true c38
                have c38b1 : decide (0 ≤ s0_1) = true := decide_eq_true c38
                clear c38
                by_cases c39 : s0_1 ≤ t124
                · rw [if_pos c39] at H
                  have c39b0 := eq_true c39
                  have c39b1 : decide (s0_1 ≤ t124) = true := decide_eq_true c39
                  clear c39
                  by_cases c40 : t124 ≤ (t123.size : Int)
                  · rw [if_pos c40] at H
                    have c40b0 := eq_true c40
                    have c40b1 : decide (t124 ≤ (t123.size : Int)) = true := decide_eq_true c40
                    clear c40
                    simp only [Option.some.injEq, Prod.mk.injEq] at H
                    obtain ⟨rfl, rfl, rfl, rfl, rfl⟩ := H
                    obtain ⟨HGz41, hgz41⟩ := HI0.out
                    have hcz41_0 := cellS110_0 HGz41
                    have hcz41_1 := cellS110_1 HGz41
                    have hcz41_2 := cellS110_2 HGz41
                    have hcz41_3 := cellS110_3 HGz41
                    have hfz41_0 := blk_frozen HGz41 0
                    have hfz41_1 := blk_frozen HGz41 1
                    have hfz41_2 := blk_frozen HGz41 2
                    have hfz41_3 := blk_frozen HGz41 3
                    clear HGz41 hgz41
                    go_wp2_with (first | (go_at_call 110; (with_reducible refine (read_cursor_fail.calls g s0_0 x1001_1 s0_2 s0_3 2 t123 t124 t125 t126 w0 _ ?side1 ?side2 A37.out).mono ?_); (case side1 => repeat (first | (with_reducible first | exact HI0.out | apply IsS110.alloc | apply IsS110.drewN | apply IsS110.drew | apply IsS110.set_0 | apply IsS110.set_1 | apply IsS110.set_2 | apply IsS110.set_3) | exact HI0.out)); (case side2 => repeat (first | (with_reducible first | exact HB.out | apply below_alloc | apply pw_below_drewN | apply below_drew1 | refine below_set ?_ (IsS110.ge HI0.out)) | exact HB.out)); rintro e w42 ⟨rfl, hi, hb, hk⟩; have n0_ := Aside0.mk (KeepBut.trans (by repeat (first | (with_reducible first | exact HK.out | apply KeepBut.set_ | apply keep_drewN | apply keep_drew | apply keep_alloc) | exact HK.out)) hk (.inl rfl)); have n1_ := Aside0.mk (hb); have n2_ := Aside0.mk (hi); clear HK; clear HB; clear HI0; have HK := n0_; have HB := n1_; have HI0 := n2_; clear n0_ n1_ n2_; (try clear hb); (try clear hb2); (try clear hk); (try clear hi); obtain ⟨HGz43, hgz43⟩ := HI0.out; have hcz43_0 := cellS110_0 HGz43; have hcz43_1 := cellS110_1 HGz43; have hcz43_2 := cellS110_2 HGz43; have hcz43_3 := cellS110_3 HGz43; have hfz43_0 := blk_frozen HGz43 0; have hfz43_1 := blk_frozen HGz43 1; have hfz43_2 := blk_frozen HGz43 2; have hfz43_3 := blk_frozen HGz43 3; clear HGz43 hgz43))
                    repeat (go_quiet (first | (go_at_call 110; (with_reducible refine (read_cursor_fail.calls g s0_0 x1001_1 s0_2 s0_3 2 t123 t124 t125 t126 w0 _ ?side1 ?side2 A37.out).mono ?_); (case side1 => repeat (first | (with_reducible first | exact HI0.out | apply IsS110.alloc | apply IsS110.drewN | apply IsS110.drew | apply IsS110.set_0 | apply IsS110.set_1 | apply IsS110.set_2 | apply IsS110.set_3) | exact HI0.out)); (case side2 => repeat (first | (with_reducible first | exact HB.out | apply below_alloc | apply pw_below_drewN | apply below_drew1 | refine below_set ?_ (IsS110.ge HI0.out)) | exact HB.out)); rintro e w42 ⟨rfl, hi, hb, hk⟩; have n0_ := Aside0.mk (KeepBut.trans (by repeat (first | (with_reducible first | exact HK.out | apply KeepBut.set_ | apply keep_drewN | apply keep_drew | apply keep_alloc) | exact HK.out)) hk (.inl rfl)); have n1_ := Aside0.mk (hb); have n2_ := Aside0.mk (hi); clear HK; clear HB; clear HI0; have HK := n0_; have HB := n1_; have HI0 := n2_; clear n0_ n1_ n2_; (try clear hb); (try clear hb2); (try clear hk); (try clear hi); obtain ⟨HGz43, hgz43⟩ := HI0.out; have hcz43_0 := cellS110_0 HGz43; have hcz43_1 := cellS110_1 HGz43; have hcz43_2 := cellS110_2 HGz43; have hcz43_3 := cellS110_3 HGz43; have hfz43_0 := blk_frozen HGz43 0; have hfz43_1 := blk_frozen HGz43 1; have hfz43_2 := blk_frozen HGz43 2; have hfz43_3 := blk_frozen HGz43 3; clear HGz43 hgz43)); try go_wp2_with (first | (go_at_call 110; (with_reducible refine (read_cursor_fail.calls g s0_0 x1001_1 s0_2 s0_3 2 t123 t124 t125 t126 w0 _ ?side1 ?side2 A37.out).mono ?_); (case side1 => repeat (first | (with_reducible first | exact HI0.out | apply IsS110.alloc | apply IsS110.drewN | apply IsS110.drew | apply IsS110.set_0 | apply IsS110.set_1 | apply IsS110.set_2 | apply IsS110.set_3) | exact HI0.out)); (case side2 => repeat (first | (with_reducible first | exact HB.out | apply below_alloc | apply pw_below_drewN | apply below_drew1 | refine below_set ?_ (IsS110.ge HI0.out)) | exact HB.out)); rintro e w42 ⟨rfl, hi, hb, hk⟩; have n0_ := Aside0.mk (KeepBut.trans (by repeat (first | (with_reducible first | exact HK.out | apply KeepBut.set_ | apply keep_drewN | apply keep_drew | apply keep_alloc) | exact HK.out)) hk (.inl rfl)); have n1_ := Aside0.mk (hb); have n2_ := Aside0.mk (hi); clear HK; clear HB; clear HI0; have HK := n0_; have HB := n1_; have HI0 := n2_; clear n0_ n1_ n2_; (try clear hb); (try clear hb2); (try clear hk); (try clear hi); obtain ⟨HGz43, hgz43⟩ := HI0.out; have hcz43_0 := cellS110_0 HGz43; have hcz43_1 := cellS110_1 HGz43; have hcz43_2 := cellS110_2 HGz43; have hcz43_3 := cellS110_3 HGz43; have hfz43_0 := blk_frozen HGz43 0; have hfz43_1 := blk_frozen HGz43 1; have hfz43_2 := blk_frozen HGz43 2; have hfz43_3 := blk_frozen HGz43 3; clear HGz43 hgz43)))
                    go_ret
                    exact ⟨by first | rfl | (simp [errW_none, errW_some] <;> rfl) | (simp [*, errW_none, errW_some] <;> rfl), by repeat (first | (with_reducible first | exact HI0.out | apply IsS110.alloc | apply IsS110.drewN | apply IsS110.drew | apply IsS110.set_0 | apply IsS110.set_1 | apply IsS110.set_2 | apply IsS110.set_3) | exact HI0.out), by repeat (first | (with_reducible first | exact HB.out | apply below_alloc | apply pw_below_drewN | apply below_drew1 | refine below_set ?_ (IsS110.ge HI0.out)) | exact HB.out), by repeat (first | (with_reducible first | exact HK.out | apply KeepBut.set_ | apply keep_drewN | apply keep_drew | apply keep_alloc) | exact HK.out)⟩
                  · rw [if_neg c40] at H
                    exact absurd H (by simp)
                · rw [if_neg c39] at H
                  exact absurd H (by simp)
              · rw [if_neg c38] at H
                exact absurd H (by simp)
            · rw [if_neg c36] at H
              have c36b0 : (x1001_1 == s0_1) = false := beq_eq_false_iff_ne.mpr c36
              have c36b1 : (x1001_1 != s0_1) = true := bne_iff_ne.mpr c36
              by_cases c44 : 0 ≤ s0_1
              · rw [if_pos c44] at H
                have c44b0 := eq_true c44
                have c44b1 : decide (0 ≤ s0_1) = true := decide_eq_true c44
                clear c44
                by_cases c45 : s0_1 ≤ x1001_1
                · rw [if_pos c45] at H
                  have c45b0 := eq_true c45
                  have c45b1 : decide (s0_1 ≤ x1001_1) = true := decide_eq_true c45
                  clear c45
                  by_cases c46 : x1001_1 ≤ (s0_0.size : Int)
                  · rw [if_pos c46] at H
                    have c46b0 := eq_true c46
                    have c46b1 : decide (x1001_1 ≤ (s0_0.size : Int)) = true := decide_eq_true c46
                    clear c46
                    simp only [Option.some.injEq, Prod.mk.injEq] at H
                    obtain ⟨rfl, rfl, rfl, rfl, rfl⟩ := H
                    obtain ⟨HGz47, hgz47⟩ := HI0.out
                    have hcz47_0 := cellS110_0 HGz47
                    have hcz47_1 := cellS110_1 HGz47
                    have hcz47_2 := cellS110_2 HGz47
                    have hcz47_3 := cellS110_3 HGz47
                    have hfz47_0 := blk_frozen HGz47 0
                    have hfz47_1 := blk_frozen HGz47 1
                    have hfz47_2 := blk_frozen HGz47 2
                    have hfz47_3 := blk_frozen HGz47 3
                    clear HGz47 hgz47
                    go_wp2
                    repeat (go_quiet (fail); try go_wp2)
                    go_ret
                    exact ⟨by first | rfl | (simp [errW_none, errW_some] <;> rfl) | (simp [*, errW_none, errW_some] <;> rfl), by repeat (first | (with_reducible first | exact HI0.out | apply IsS110.alloc | apply IsS110.drewN | apply IsS110.drew | apply IsS110.set_0 | apply IsS110.set_1 | apply IsS110.set_2 | apply IsS110.set_3) | exact HI0.out), by repeat (first | (with_reducible first | exact HB.out | apply below_alloc | apply pw_below_drewN | apply below_drew1 | refine below_set ?_ (IsS110.ge HI0.out)) | exact HB.out), by repeat (first | (with_reducible first | exact HK.out | apply KeepBut.set_ | apply keep_drewN | apply keep_drew | apply keep_alloc) | exact HK.out)⟩
                  · rw [if_neg c46] at H
                    exact absurd H (by simp)
                · rw [if_neg c45] at H
                  exact absurd H (by simp)
              · rw [if_neg c44] at H
                exact absurd H (by simp)
        · rw [if_neg c4] at H
          have c4b0 : decide ((wrap64 (x1001_1 - s0_1)) < 8) = false := decide_eq_false c4
          clear c4
          by_cases c48 : x1001_1 = s0_1
          · rw [if_pos c48] at H
            have c48b0 : (x1001_1 == s0_1) = true := beq_iff_eq.mpr c48
            have c48b1 : (x1001_1 != s0_1) = false := bne_eq_false_iff_eq.mpr c48
            clear c48
            replace H := Option.bind_eq_some_iff.mp H
            obtain ⟨⟨t127, t128, t129, t130⟩, A490, H⟩ := H
            replace H : (if 0 ≤ s0_1 then (if s0_1 ≤ t128 then (if t128 ≤ (t127.size : Int) then (some (t127.extract (s0_1 : Int).toNat (t128 : Int).toNat, t127, t128, t129, t130)) else (none)) else (none)) else (none)) = some (r1, r2, r3, r4, r5) := H
            have A49 := Aside0.mk A490
            clear A490
            by_cases c50 : 0 ≤ s0_1
            · rw [if_pos c50] at H
              have c50b0 := eq_true c50
              have c50b1 : decide (0 ≤ s0_1) = true := decide_eq_true c50
              clear c50
              by_cases c51 : s0_1 ≤ t128
              · rw [if_pos c51] at H
                have c51b0 := eq_true c51
                have c51b1 : decide (s0_1 ≤ t128) = true := decide_eq_true c51
                clear c51
                by_cases c52 : t128 ≤ (t127.size : Int)
                · rw [if_pos c52] at H
                  have c52b0 := eq_true c52
                  have c52b1 : decide (t128 ≤ (t127.size : Int)) = true := decide_eq_true c52
                  clear c52
                  simp only [Option.some.injEq, Prod.mk.injEq] at H
                  obtain ⟨rfl, rfl, rfl, rfl, rfl⟩ := H
                  obtain ⟨HGz53, hgz53⟩ := HI0.out
                  have hcz53_0 := cellS110_0 HGz53
                  have hcz53_1 := cellS110_1 HGz53
                  have hcz53_2 := cellS110_2 HGz53
                  have hcz53_3 := cellS110_3 HGz53
                  have hfz53_0 := blk_frozen HGz53 0
                  have hfz53_1 := blk_frozen HGz53 1
                  have hfz53_2 := blk_frozen HGz53 2
                  have hfz53_3 := blk_frozen HGz53 3
                  clear HGz53 hgz53
                  go_wp2_with (first | (go_at_call 110; (with_reducible refine (read_cursor_fail.calls g s0_0 x1001_1 s0_2 s0_3 2 t127 t128 t129 t130 w0 _ ?side1 ?side2 A49.out).mono ?_); (case side1 => repeat (first | (with_reducible first | exact HI0.out | apply IsS110.alloc | apply IsS110.drewN | apply IsS110.drew | apply IsS110.set_0 | apply IsS110.set_1 | apply IsS110.set_2 | apply IsS110.set_3) | exact HI0.out)); (case side2 => repeat (first | (with_reducible first | exact HB.out | apply below_alloc | apply pw_below_drewN | apply below_drew1 | refine below_set ?_ (IsS110.ge HI0.out)) | exact HB.out)); rintro e w54 ⟨rfl, hi, hb, hk⟩; have n0_ := Aside0.mk (KeepBut.trans (by repeat (first | (with_reducible first | exact HK.out | apply KeepBut.set_ | apply keep_drewN | apply keep_drew | apply keep_alloc) | exact HK.out)) hk (.inl rfl)); have n1_ := Aside0.mk (hb); have n2_ := Aside0.mk (hi); clear HK; clear HB; clear HI0; have HK := n0_; have HB := n1_; have HI0 := n2_; clear n0_ n1_ n2_; (try clear hb); (try clear hb2); (try clear hk); (try clear hi); obtain ⟨HGz55, hgz55⟩ := HI0.out; have hcz55_0 := cellS110_0 HGz55; have hcz55_1 := cellS110_1 HGz55; have hcz55_2 := cellS110_2 HGz55; have hcz55_3 := cellS110_3 HGz55; have hfz55_0 := blk_frozen HGz55 0; have hfz55_1 := blk_frozen HGz55 1; have hfz55_2 := blk_frozen HGz55 2; have hfz55_3 := blk_frozen HGz55 3; clear HGz55 hgz55))
                  repeat (go_quiet (first | (go_at_call 110; (with_reducible refine (read_cursor_fail.calls g s0_0 x1001_1 s0_2 s0_3 2 t127 t128 t129 t130 w0 _ ?side1 ?side2 A49.out).mono ?_); (case side1 => repeat (first | (with_reducible first | exact HI0.out | apply IsS110.alloc | apply IsS110.drewN | apply IsS110.drew | apply IsS110.set_0 | apply IsS110.set_1 | apply IsS110.set_2 | apply IsS110.set_3) | exact HI0.out)); (case side2 => repeat (first | (with_reducible first | exact HB.out | apply below_alloc | apply pw_below_drewN | apply below_drew1 | refine below_set ?_ (IsS110.ge HI0.out)) | exact HB.out)); rintro e w54 ⟨rfl, hi, hb, hk⟩; have n0_ := Aside0.mk (KeepBut.trans (by repeat (first | (with_reducible first | exact HK.out | apply KeepBut.set_ | apply keep_drewN | apply keep_drew | apply keep_alloc) | exact HK.out)) hk (.inl rfl)); have n1_ := Aside0.mk (hb); have n2_ := Aside0.mk (hi); clear HK; clear HB; clear HI0; have HK := n0_; have HB := n1_; have HI0 := n2_; clear n0_ n1_ n2_; (try clear hb); (try clear hb2); (try clear hk); (try clear hi); obtain ⟨HGz55, hgz55⟩ := HI0.out; have hcz55_0 := cellS110_0 HGz55; have hcz55_1 := cellS110_1 HGz55; have hcz55_2 := cellS110_2 HGz55; have hcz55_3 := cellS110_3 HGz55; have hfz55_0 := blk_frozen HGz55 0; have hfz55_1 := blk_frozen HGz55 1; have hfz55_2 := blk_frozen HGz55 2; have hfz55_3 := blk_frozen HGz55 3; clear HGz55 hgz55)); try go_wp2_with (first | (go_at_call 110; (with_reducible refine (read_cursor_fail.calls g s0_0 x1001_1 s0_2 s0_3 2 t127 t128 t129 t130 w0 _ ?side1 ?side2 A49.out).mono ?_); (case side1 => repeat (first | (with_reducible first | exact HI0.out | apply IsS110.alloc | apply IsS110.drewN | apply IsS110.drew | apply IsS110.set_0 | apply IsS110.set_1 | apply IsS110.set_2 | apply IsS110.set_3) | exact HI0.out)); (case side2 => repeat (first | (with_reducible first | exact HB.out | apply below_alloc | apply pw_below_drewN | apply below_drew1 | refine below_set ?_ (IsS110.ge HI0.out)) | exact HB.out)); rintro e w54 ⟨rfl, hi, hb, hk⟩; have n0_ := Aside0.mk (KeepBut.trans (by repeat (first | (with_reducible first | exact HK.out | apply KeepBut.set_ | apply keep_drewN | apply keep_drew | apply keep_alloc) | exact HK.out)) hk (.inl rfl)); have n1_ := Aside0.mk (hb); have n2_ := Aside0.mk (hi); clear HK; clear HB; clear HI0; have HK := n0_; have HB := n1_; have HI0 := n2_; clear n0_ n1_ n2_; (try clear hb); (try clear hb2); (try clear hk); (try clear hi); obtain ⟨HGz55, hgz55⟩ := HI0.out; have hcz55_0 := cellS110_0 HGz55; have hcz55_1 := cellS110_1 HGz55; have hcz55_2 := cellS110_2 HGz55; have hcz55_3 := cellS110_3 HGz55; have hfz55_0 := blk_frozen HGz55 0; have hfz55_1 := blk_frozen HGz55 1; have hfz55_2 := blk_frozen HGz55 2; have hfz55_3 := blk_frozen HGz55 3; clear HGz55 hgz55)))
                  go_ret
                  exact ⟨by first | rfl | (simp [errW_none, errW_some] <;> rfl) | (simp [*, errW_none, errW_some] <;> rfl), by repeat (first | (with_reducible first | exact HI0.out | apply IsS110.alloc | apply IsS110.drewN | apply IsS110.drew | apply IsS110.set_0 | apply IsS110.set_1 | apply IsS110.set_2 | apply IsS110.set_3) | exact HI0.out), by repeat (first | (with_reducible first | exact HB.out | apply below_alloc | apply pw_below_drewN | apply below_drew1 | refine below_set ?_ (IsS110.ge HI0.out)) | exact HB.out), by repeat (first | (with_reducible first | exact HK.out | apply KeepBut.set_ | apply keep_drewN | apply keep_drew | apply keep_alloc) | exact HK.out)⟩
                · rw [if_neg c52] at H
                  exact absurd H (by simp)
              · rw [if_neg c51] at H
                exact absurd H (by simp)
            · rw [if_neg c50] at H
              exact absurd H (by simp)
          · rw [if_neg c48] at H
            have c48b0 : (x1001_1 == s0_1) = false := beq_eq_false_iff_ne.mpr c48
            have c48b1 : (x1001_1 != s0_1) = true := bne_iff_ne.mpr c48
            by_cases c56 : 0 ≤ s0_1
            · rw [if_pos c56] at H
              have c56b0 := eq_true c56
              have c56b1 : decide (0 ≤ s0_1) = true := decide_eq_true c56
              clear c56
              by_cases c57 : s0_1 ≤ x1001_1
              · rw [if_pos c57] at H
                have c57b0 := eq_true c57
                have c57b1 : decide (s0_1 ≤ x1001_1) = true := decide_eq_true c57
                clear c57
                by_cases c58 : x1001_1 ≤ (s0_0.size : Int)
                · rw [if_pos c58] at H
                  have c58b0 := eq_true c58
                  have c58b1 : decide (x1001_1 ≤ (s0_0.size : Int)) = true := decide_eq_true c58
                  clear c58
                  simp only [Option.some.injEq, Prod.mk.injEq] at H
                  obtain ⟨rfl, rfl, rfl, rfl, rfl⟩ := H
                  obtain ⟨HGz59, hgz59⟩ := HI0.out
                  have hcz59_0 := cellS110_0 HGz59
                  have hcz59_1 := cellS110_1 HGz59
                  have hcz59_2 := cellS110_2 HGz59
                  have hcz59_3 := cellS110_3 HGz59
                  have hfz59_0 := blk_frozen HGz59 0
                  have hfz59_1 := blk_frozen HGz59 1
                  have hfz59_2 := blk_frozen HGz59 2
                  have hfz59_3 := blk_frozen HGz59 3
                  clear HGz59 hgz59
                  go_wp2
                  repeat (go_quiet (fail); try go_wp2)
                  go_ret
                  exact ⟨by first | rfl | (simp [errW_none, errW_some] <;> rfl) | (simp [*, errW_none, errW_some] <;> rfl), by repeat (first | (with_reducible first | exact HI0.out | apply IsS110.alloc | apply IsS110.drewN | apply IsS110.drew | apply IsS110.set_0 | apply IsS110.set_1 | apply IsS110.set_2 | apply IsS110.set_3) | exact HI0.out), by repeat (first | (with_reducible first | exact HB.out | apply below_alloc | apply pw_below_drewN | apply below_drew1 | refine below_set ?_ (IsS110.ge HI0.out)) | exact HB.out), by repeat (first | (with_reducible first | exact HK.out | apply KeepBut.set_ | apply keep_drewN | apply keep_drew | apply keep_alloc) | exact HK.out)⟩
                · rw [if_neg c58] at H
                  exact absurd H (by simp)
              · rw [if_neg c57] at H
                exact absurd H (by simp)
            · rw [if_neg c56] at H
              exact absurd H (by simp)
      · rw [if_neg c3] at H
        have c3b0 : (s0_3 == 0) = false := beq_eq_false_iff_ne.mpr c3
        have c3b1 : (s0_3 != 0) = true := bne_iff_ne.mpr c3
        by_cases c60 : x1001_1 = s0_1
        · rw [if_pos c60] at H
          have c60b0 : (x1001_1 == s0_1) = true := beq_iff_eq.mpr c60
          have c60b1 : (x1001_1 != s0_1) = false := bne_eq_false_iff_eq.mpr c60
          clear c60
          replace H := Option.bind_eq_some_iff.mp H
          obtain ⟨⟨t131, t132, t133, t134⟩, A610, H⟩ := H
          replace H : (if 0 ≤ s0_1 then (if s0_1 ≤ t132 then (if t132 ≤ (t131.size : Int) then (some (t131.extract (s0_1 : Int).toNat (t132 : Int).toNat, t131, t132, t133, t134)) else (none)) else (none)) else (none)) = some (r1, r2, r3, r4, r5) := H
          have A61 := Aside0.mk A610
          clear A610
          by_cases c62 : 0 ≤ s0_1
          · rw [if_pos c62] at H
            have c62b0 := eq_true c62
            have c62b1 : decide (0 ≤ s0_1) = true := decide_eq_true c62
            clear c62
            by_cases c63 : s0_1 ≤ t132
            · rw [if_pos c63] at H
              have c63b0 := eq_true c63
              have c63b1 : decide (s0_1 ≤ t132) = true := decide_eq_true c63
              clear c63
              by_cases c64 : t132 ≤ (t131.size : Int)
              · rw [if_pos c64] at H
                have c64b0 := eq_true c64
                have c64b1 : decide (t132 ≤ (t131.size : Int)) = true := decide_eq_true c64
                clear c64
                simp only [Option.some.injEq, Prod.mk.injEq] at H
                obtain ⟨rfl, rfl, rfl, rfl, rfl⟩ := H
                obtain ⟨HGz65, hgz65⟩ := HI0.out
                have hcz65_0 := cellS110_0 HGz65
                have hcz65_1 := cellS110_1 HGz65
                have hcz65_2 := cellS110_2 HGz65
                have hcz65_3 := cellS110_3 HGz65
                have hfz65_0 := blk_frozen HGz65 0
                have hfz65_1 := blk_frozen HGz65 1
                have hfz65_2 := blk_frozen HGz65 2
                have hfz65_3 := blk_frozen HGz65 3
                clear HGz65 hgz65
                go_wp2_with (first | (go_at_call 110; (with_reducible refine (read_cursor_fail.calls g s0_0 x1001_1 s0_2 s0_3 2 t131 t132 t133 t134 w0 _ ?side1 ?side2 A61.out).mono ?_); (case side1 => repeat (first | (with_reducible first | exact HI0.out | apply IsS110.alloc | apply IsS110.drewN | apply IsS110.drew | apply IsS110.set_0 | apply IsS110.set_1 | apply IsS110.set_2 | apply IsS110.set_3) | exact HI0.out)); (case side2 => repeat (first | (with_reducible first | exact HB.out | apply below_alloc | apply pw_below_drewN | apply below_drew1 | refine below_set ?_ (IsS110.ge HI0.out)) | exact HB.out)); rintro e w66 ⟨rfl, hi, hb, hk⟩; have n0_ := Aside0.mk (KeepBut.trans (by repeat (first | (with_reducible first | exact HK.out | apply KeepBut.set_ | apply keep_drewN | apply keep_drew | apply keep_alloc) | exact HK.out)) hk (.inl rfl)); have n1_ := Aside0.mk (hb); have n2_ := Aside0.mk (hi); clear HK; clear HB; clear HI0; have HK := n0_; have HB := n1_; have HI0 := n2_; clear n0_ n1_ n2_; (try clear hb); (try clear hb2); (try clear hk); (try clear hi); obtain ⟨HGz67, hgz67⟩ := HI0.out; have hcz67_0 := cellS110_0 HGz67; have hcz67_1 := cellS110_1 HGz67; have hcz67_2 := cellS110_2 HGz67; have hcz67_3 := cellS110_3 HGz67; have hfz67_0 := blk_frozen HGz67 0; have hfz67_1 := blk_frozen HGz67 1; have hfz67_2 := blk_frozen HGz67 2; have hfz67_3 := blk_frozen HGz67 3; clear HGz67 hgz67))
                repeat (go_quiet (first | (go_at_call 110; (with_reducible refine (read_cursor_fail.calls g s0_0 x1001_1 s0_2 s0_3 2 t131 t132 t133 t134 w0 _ ?side1 ?side2 A61.out).mono ?_); (case side1 => repeat (first | (with_reducible first | exact HI0.out | apply IsS110.alloc | apply IsS110.drewN | apply IsS110.drew | apply IsS110.set_0 | apply IsS110.set_1 | apply IsS110.set_2 | apply IsS110.set_3) | exact HI0.out)); (case side2 => repeat (first | (with_reducible first | exact HB.out | apply below_alloc | apply pw_below_drewN | apply below_drew1 | refine below_set ?_ (IsS110.ge HI0.out)) | exact HB.out)); rintro e w66 ⟨rfl, hi, hb, hk⟩; have n0_ := Aside0.mk (KeepBut.trans (by repeat (first | (with_reducible first | exact HK.out | apply KeepBut.set_ | apply keep_drewN | apply keep_drew | apply keep_alloc) | exact HK.out)) hk (.inl rfl)); have n1_ := Aside0.mk (hb); have n2_ := Aside0.mk (hi); clear HK; clear HB; clear HI0; have HK := n0_; have HB := n1_; have HI0 := n2_; clear n0_ n1_ n2_; (try clear hb); (try clear hb2); (try clear hk); (try clear hi); obtain ⟨HGz67, hgz67⟩ := HI0.out; have hcz67_0 := cellS110_0 HGz67; have hcz67_1 := cellS110_1 HGz67; have hcz67_2 := cellS110_2 HGz67; have hcz67_3 := cellS110_3 HGz67; have hfz67_0 := blk_frozen HGz67 0; have hfz67_1 := blk_frozen HGz67 1; have hfz67_2 := blk_frozen HGz67 2; have hfz67_3 := blk_frozen HGz67 3; clear HGz67 hgz67)); try go_wp2_with (first | (go_at_call 110; (with_reducible refine (read_cursor_fail.calls g s0_0 x1001_1 s0_2 s0_3 2 t131 t132 t133 t134 w0 _ ?side1 ?side2 A61.out).mono ?_); (case side1 => repeat (first | (with_reducible first | exact HI0.out | apply IsS110.alloc | apply IsS110.drewN | apply IsS110.drew | apply IsS110.set_0 | apply IsS110.set_1 | apply IsS110.set_2 | apply IsS110.set_3) | exact HI0.out)); (case side2 => repeat (first | (with_reducible first | exact HB.out | apply below_alloc | apply pw_below_drewN | apply below_drew1 | refine below_set ?_ (IsS110.ge HI0.out)) | exact HB.out)); rintro e w66 ⟨rfl, hi, hb, hk⟩; have n0_ := Aside0.mk (KeepBut.trans (by repeat (first | (with_reducible first | exact HK.out | apply KeepBut.set_ | apply keep_drewN | apply keep_drew | apply keep_alloc) | exact HK.out)) hk (.inl rfl)); have n1_ := Aside0.mk (hb); have n2_ := Aside0.mk (hi); clear HK; clear HB; clear HI0; have HK := n0_; have HB := n1_; have HI0 := n2_; clear n0_ n1_ n2_; (try clear hb); (try clear hb2); (try clear hk); (try clear hi); obtain ⟨HGz67, hgz67⟩ := HI0.out; have hcz67_0 := cellS110_0 HGz67; have hcz67_1 := cellS110_1 HGz67; have hcz67_2 := cellS110_2 HGz67; have hcz67_3 := cellS110_3 HGz67; have hfz67_0 := blk_frozen HGz67 0; have hfz67_1 := blk_frozen HGz67 1; have hfz67_2 := blk_frozen HGz67 2; have hfz67_3 := blk_frozen HGz67 3; clear HGz67 hgz67)))
                go_ret
                exact ⟨by first | rfl | (simp [errW_none, errW_some] <;> rfl) | (simp [*, errW_none, errW_some] <;> rfl), by repeat (first | (with_reducible first | exact HI0.out | apply IsS110.alloc | apply IsS110.drewN | apply IsS110.drew | apply IsS110.set_0 | apply IsS110.set_1 | apply IsS110.set_2 | apply IsS110.set_3) | exact HI0.out), by repeat (first | (with_reducible first | exact HB.out | apply below_alloc | apply pw_below_drewN | apply below_drew1 | refine below_set ?_ (IsS110.ge HI0.out)) | exact HB.out), by repeat (first | (with_reducible first | exact HK.out | apply KeepBut.set_ | apply keep_drewN | apply keep_drew | apply keep_alloc) | exact HK.out)⟩
              · rw [if_neg c64] at H
                exact absurd H (by simp)
            · rw [if_neg c63] at H
              exact absurd H (by simp)
          · rw [if_neg c62] at H
            exact absurd H (by simp)
        · rw [if_neg c60] at H
          have c60b0 : (x1001_1 == s0_1) = false := beq_eq_false_iff_ne.mpr c60
          have c60b1 : (x1001_1 != s0_1) = true := bne_iff_ne.mpr c60
          by_cases c68 : 0 ≤ s0_1
          · rw [if_pos c68] at H
            have c68b0 := eq_true c68
            have c68b1 : decide (0 ≤ s0_1) = true := decide_eq_true c68
            clear c68
            by_cases c69 : s0_1 ≤ x1001_1
            · rw [if_pos c69] at H
              have c69b0 := eq_true c69
              have c69b1 : decide (s0_1 ≤ x1001_1) = true := decide_eq_true c69
              clear c69
              by_cases c70 : x1001_1 ≤ (s0_0.size : Int)
              · rw [if_pos c70] at H
                have c70b0 := eq_true c70
                have c70b1 : decide (x1001_1 ≤ (s0_0.size : Int)) = true := decide_eq_true c70
                clear c70
                simp only [Option.some.injEq, Prod.mk.injEq] at H
                obtain ⟨rfl, rfl, rfl, rfl, rfl⟩ := H
                obtain ⟨HGz71, hgz71⟩ := HI0.out
                have hcz71_0 := cellS110_0 HGz71
                have hcz71_1 := cellS110_1 HGz71
                have hcz71_2 := cellS110_2 HGz71
                have hcz71_3 := cellS110_3 HGz71
                have hfz71_0 := blk_frozen HGz71 0
                have hfz71_1 := blk_frozen HGz71 1
                have hfz71_2 := blk_frozen HGz71 2
                have hfz71_3 := blk_frozen HGz71 3
                clear HGz71 hgz71
                go_wp2
                repeat (go_quiet (fail); try go_wp2)
                go_ret
                exact ⟨by first | rfl | (simp [errW_none, errW_some] <;> rfl) | (simp [*, errW_none, errW_some] <;> rfl), by repeat (first | (with_reducible first | exact HI0.out | apply IsS110.alloc | apply IsS110.drewN | apply IsS110.drew | apply IsS110.set_0 | apply IsS110.set_1 | apply IsS110.set_2 | apply IsS110.set_3) | exact HI0.out), by repeat (first | (with_reducible first | exact HB.out | apply below_alloc | apply pw_below_drewN | apply below_drew1 | refine below_set ?_ (IsS110.ge HI0.out)) | exact HB.out), by repeat (first | (with_reducible first | exact HK.out | apply KeepBut.set_ | apply keep_drewN | apply keep_drew | apply keep_alloc) | exact HK.out)⟩
              · rw [if_neg c70] at H
                exact absurd H (by simp)
            · rw [if_neg c69] at H
              exact absurd H (by simp)
          · rw [if_neg c68] at H
            exact absurd H (by simp)

end Go.Proofs.YtcabnjinfkjnjaaDoor.XH
