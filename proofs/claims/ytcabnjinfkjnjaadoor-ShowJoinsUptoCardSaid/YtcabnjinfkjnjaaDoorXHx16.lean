-- Written by a program of this session (xprint.py over the kit's print): functions, their contracts, laws.
import Derived.Test.YtcabnjinfkjnjaaDoorXHx0
import Derived.Test.YtcabnjinfkjnjaaDoorXHx10
import Derived.Test.YtcabnjinfkjnjaaDoorGNum
import Derived.Test.YtcabnjinfkjnjaaDoorGShow
import Derived.Test.YtcabnjinfkjnjaaDoorXNx2
import Derived.Test.YtcabnjinfkjnjaaDoorGNum
namespace Go.Proofs.YtcabnjinfkjnjaaDoor.XH
open Go.RowKit Go.Proofs.YtcabnjinfkjnjaaDoorW.PrintWords Go.Proofs.YtcabnjinfkjnjaaDoorW.PrintLast Go.Proofs.YtcabnjinfkjnjaaDoorW.PrintMore Go.Proofs.YtcabnjinfkjnjaaDoor.X
attribute [local go_sem] max2_int min2_int max_two min_two max_three min_three max_four min_four   -- for this text's walks alone
set_option linter.unusedVariables false
set_option linter.unusedSimpArgs false

-- GIVEN-MID: function 53 (show_Text)

/-! ### eyewitnesslaw08_awake: function 52 -/
def eyewitnesslaw08_awake.f  : Option (Bool) := (show_Text.f (([(([(⟨true, (⟨#[120]⟩ : ByteArray), 1⟩ : S61), (⟨false, (⟨#[121]⟩ : ByteArray), 0⟩ : S61)] : List (S61)))] : List (List (S61))))).bind fun bt433 => ((show_Text.f (([(([(⟨false, (⟨#[]⟩ : ByteArray), 0⟩ : S61)] : List (S61)))] : List (List (S61))))).bind fun bt441 => (if bt433.2 = 0 then (if bt433.1.toList = ([119, 58, 120, 61, 49, 32, 114, 58, 121, 61, 48, 10] : List UInt8) then (some (bt441.2 == 1)) else (some false)) else (some false)))
set_option maxHeartbeats 8000000 in
set_option maxRecDepth 100000 in
theorem eyewitnesslaw08_awake.calls  (r : Bool) (w : World) (hT : Tabs w) (h : eyewitnesslaw08_awake.f  = some r) :
    Calls Tryd.prog 52 #[] w fun e w' => e = .returned (.bool r) ∧ Below w.heap.size w w' := by
  have HT := Aside0.mk hT
  clear hT
  have hu61 := Tryd.underlying61
  have HB := Aside0.mk (Below.refl w.heap.size w)
  have H : ((show_Text.f (([(([(⟨true, (⟨#[120]⟩ : ByteArray), 1⟩ : S61), (⟨false, (⟨#[121]⟩ : ByteArray), 0⟩ : S61)] : List (S61)))] : List (List (S61))))).bind fun bt433 => ((show_Text.f (([(([(⟨false, (⟨#[]⟩ : ByteArray), 0⟩ : S61)] : List (S61)))] : List (List (S61))))).bind fun bt441 => (if bt433.2 = 0 then (if bt433.1.toList = ([119, 58, 120, 61, 49, 32, 114, 58, 121, 61, 48, 10] : List UInt8) then (some (bt441.2 == 1)) else (some false)) else (some false)))) = some r := h
  clear h
  obtain ⟨y427, hy427⟩ : ∃ y_ : List (S61), y_ = (([(⟨true, (⟨#[120]⟩ : ByteArray), 1⟩ : S61), (⟨false, (⟨#[121]⟩ : ByteArray), 0⟩ : S61)] : List (S61))) := ⟨_, rfl⟩
  replace H : ((show_Text.f (([y427] : List (List (S61))))).bind fun bt433 => ((show_Text.f (([(([(⟨false, (⟨#[]⟩ : ByteArray), 0⟩ : S61)] : List (S61)))] : List (List (S61))))).bind fun bt441 => (if bt433.2 = 0 then (if bt433.1.toList = ([119, 58, 120, 61, 49, 32, 114, 58, 121, 61, 48, 10] : List UInt8) then (some (bt441.2 == 1)) else (some false)) else (some false)))) = some r := by first | (rw [hy427]; with_reducible exact H) | (have H2_ := (Option.bind_some _ _).symm.trans H; rw [hy427]; with_reducible exact H2_) | (have H2_ := (Option.bind_some _ _).symm.trans H; with_reducible exact H2_) | with_reducible exact H | (rw [hy427]; exact H) | exact H
  have Ny427 := Aside0.mk hy427
  clear hy427
  obtain ⟨y430, hy430⟩ : ∃ y_ : List (List (S61)), y_ = (([y427] : List (List (S61)))) := ⟨_, rfl⟩
  replace H : ((show_Text.f y430).bind fun bt433 => ((show_Text.f (([(([(⟨false, (⟨#[]⟩ : ByteArray), 0⟩ : S61)] : List (S61)))] : List (List (S61))))).bind fun bt441 => (if bt433.2 = 0 then (if bt433.1.toList = ([119, 58, 120, 61, 49, 32, 114, 58, 121, 61, 48, 10] : List UInt8) then (some (bt441.2 == 1)) else (some false)) else (some false)))) = some r := by first | (rw [hy430]; with_reducible exact H) | (have H2_ := (Option.bind_some _ _).symm.trans H; rw [hy430]; with_reducible exact H2_) | (have H2_ := (Option.bind_some _ _).symm.trans H; with_reducible exact H2_) | with_reducible exact H | (rw [hy430]; exact H) | exact H
  have Ny430 := Aside0.mk hy430
  clear hy430
  replace H := Option.bind_eq_some_iff.mp H
  obtain ⟨⟨t433, t434⟩, A10, H⟩ := H
  replace H : ((show_Text.f (([(([(⟨false, (⟨#[]⟩ : ByteArray), 0⟩ : S61)] : List (S61)))] : List (List (S61))))).bind fun bt441 => (if t434 = 0 then (if t433.toList = ([119, 58, 120, 61, 49, 32, 114, 58, 121, 61, 48, 10] : List UInt8) then (some (bt441.2 == 1)) else (some false)) else (some false))) = some r := H
  have A1 := Aside0.mk A10
  clear A10
  obtain ⟨y435, hy435⟩ : ∃ y_ : List (S61), y_ = (([(⟨false, (⟨#[]⟩ : ByteArray), 0⟩ : S61)] : List (S61))) := ⟨_, rfl⟩
  replace H : ((show_Text.f (([y435] : List (List (S61))))).bind fun bt441 => (if t434 = 0 then (if t433.toList = ([119, 58, 120, 61, 49, 32, 114, 58, 121, 61, 48, 10] : List UInt8) then (some (bt441.2 == 1)) else (some false)) else (some false))) = some r := by first | (rw [hy435]; with_reducible exact H) | (have H2_ := (Option.bind_some _ _).symm.trans H; rw [hy435]; with_reducible exact H2_) | (have H2_ := (Option.bind_some _ _).symm.trans H; with_reducible exact H2_) | with_reducible exact H | (rw [hy435]; exact H) | exact H
  have Ny435 := Aside0.mk hy435
  clear hy435
  obtain ⟨y438, hy438⟩ : ∃ y_ : List (List (S61)), y_ = (([y435] : List (List (S61)))) := ⟨_, rfl⟩
  replace H : ((show_Text.f y438).bind fun bt441 => (if t434 = 0 then (if t433.toList = ([119, 58, 120, 61, 49, 32, 114, 58, 121, 61, 48, 10] : List UInt8) then (some (bt441.2 == 1)) else (some false)) else (some false))) = some r := by first | (rw [hy438]; with_reducible exact H) | (have H2_ := (Option.bind_some _ _).symm.trans H; rw [hy438]; with_reducible exact H2_) | (have H2_ := (Option.bind_some _ _).symm.trans H; with_reducible exact H2_) | with_reducible exact H | (rw [hy438]; exact H) | exact H
  have Ny438 := Aside0.mk hy438
  clear hy438
  replace H := Option.bind_eq_some_iff.mp H
  obtain ⟨⟨t441, t442⟩, A20, H⟩ := H
  replace H : (if t434 = 0 then (if t433.toList = ([119, 58, 120, 61, 49, 32, 114, 58, 121, 61, 48, 10] : List UInt8) then (some (t442 == 1)) else (some false)) else (some false)) = some r := H
  have A2 := Aside0.mk A20
  clear A20
  by_cases c3 : t434 = 0
  · rw [if_pos c3] at H
    have c3b0 : (t434 == 0) = true := beq_iff_eq.mpr c3
    have c3b1 : (t434 != 0) = false := bne_eq_false_iff_eq.mpr c3
    clear c3
    by_cases c4 : t433.toList = ([119, 58, 120, 61, 49, 32, 114, 58, 121, 61, 48, 10] : List UInt8)
    · rw [if_pos c4] at H
      have c4b0 : (t433.toList == ([119, 58, 120, 61, 49, 32, 114, 58, 121, 61, 48, 10] : List UInt8)) = true := beq_iff_eq.mpr c4
      have c4b1 : (t433.toList != ([119, 58, 120, 61, 49, 32, 114, 58, 121, 61, 48, 10] : List UInt8)) = false := bne_eq_false_iff_eq.mpr c4
      clear c4
      obtain rfl := Option.some.inj H
      go_enter Tryd.func52, Tryd.ntmps52
      go_wp2_with (first | ((with_reducible refine gate_dst (N := 8) rfl ?_); refine Kd.R_lit k61 _ 61 ?hg (N := 8) ?hd (xs := ([(⟨true, (⟨#[120]⟩ : ByteArray), 1⟩ : S61), (⟨false, (⟨#[121]⟩ : ByteArray), 0⟩ : S61)] : List (S61))) (inner := [.bool true, .string (⟨#[120]⟩ : ByteArray), .int .i64 1, .bool false, .string (⟨#[121]⟩ : ByteArray), .int .i64 0]) (ok := fun _ => True) (okp := fun _ => True) ?hr ?hp (fun _ hk => hk) trivial (Below.refl _ _) (Nat.le_refl _) (by simp) ?_; (case hd => rfl); (case hg => rfl); (case hr => first | (go_simp; done) | (go_simp; rfl)); (case hp => exact (Reps.c3 (show Kd.M k61 _ _ _ (⟨true, (⟨#[120]⟩ : ByteArray), 1⟩ : S61) [.bool true, .string (⟨#[120]⟩ : ByteArray), .int .i64 1] from (k61_mkM _ _ _ (⟨true, (⟨#[120]⟩ : ByteArray), 1⟩ : S61) )) (Reps.c3 (show Kd.M k61 _ _ _ (⟨false, (⟨#[121]⟩ : ByteArray), 0⟩ : S61) [.bool false, .string (⟨#[121]⟩ : ByteArray), .int .i64 0] from (k61_mkM _ _ _ (⟨false, (⟨#[121]⟩ : ByteArray), 0⟩ : S61) )) (Reps.none _ _)))); intro v428 w5 ho6 hb hg_ hnew_; clear hg_ hnew_; (first | rw [← Ny427.out] at ho6 | (simp only [Int.reduceToNat] at ho6; rw [← Ny427.out] at ho6)); have n0_ := Aside0.mk (Kd.R_lower ho6 (below_size (by repeat (first | (with_reducible first | exact HB.out | apply below_alloc | apply pw_below_drewN | apply below_drew1) | exact HB.out)))); have n1_ := Aside0.mk (below_step (by repeat (first | (with_reducible first | exact HB.out | apply below_alloc | apply pw_below_drewN | apply below_drew1) | exact HB.out)) hb); clear HB; have HO429 := n0_; have HB := n1_; clear n0_ n1_; clear hb ho6; obtain ⟨Ao7, co7, eo7⟩ := Kd.R_slice HO429.out; subst eo7) | ((with_reducible refine gate_dst (N := 9) rfl ?_); refine Kd.N_lit (Kd.slice 61 k61) _ 51 ?hg (N' := 9) ?hd (xs := ([y427] : List (List (S61)))) (inner := [.slice Ao7 y427.length co7]) (ok := (fun _ => True)) (okp := (fun _ => True)) ?hr ?hp (fun _ hk => hk) ((show ∀ k_, w5.heap.size ≤ k_ → (fun _ => True) k_ from fun k_ hk => trivial) _ (Nat.le_refl _)) (Below.refl _ _) (Nat.le_refl _) (by simp) ?_; (case hd => rfl); (case hg => rfl); (case hr => first | (go_simp; done) | (go_simp; rfl)); (case hp => exact (Reps.one (show Kd.FK (Kd.slice 61 k61) _ _ y427 [.slice Ao7 y427.length co7] from (Kd.FK_slice_mk (Kd.R_reads' (Kd.R_mono (ok' := (fun _ => True)) (HO429.out) (fun k_ hk => trivial))).2.1 (Kd.R_F (Kd.R_mono (ok' := (fun _ => True)) (HO429.out) (fun k_ hk => trivial))))) (Reps.none _ _))); intro v431 w8 ho9 hb hg_ hnew_; clear hg_ hnew_; (first | rw [← Ny430.out] at ho9 | (simp only [Int.reduceToNat] at ho9; rw [← Ny430.out] at ho9)); have n0_ := Aside0.mk (Kd.N_lower ho9 (below_size (by repeat (first | (with_reducible first | exact HB.out | apply below_alloc | apply pw_below_drewN | apply below_drew1) | exact HB.out)))); have n1_ := Aside0.mk (below_step (by repeat (first | (with_reducible first | exact HB.out | apply below_alloc | apply pw_below_drewN | apply below_drew1) | exact HB.out)) hb); clear HB; clear HO429; have HO432 := n0_; have HB := n1_; clear n0_ n1_; clear hb ho9; obtain ⟨Ao10, co10, eo10⟩ := Kd.N_slice HO432.out; subst eo10) | ((with_reducible refine gate_callee (f := 53) rfl ?_); refine goesL_ (some 10) rfl rfl Tryd.func53 (by kernel_rfl) rfl #[.slice Ao10 y430.length co10] rfl (by (try simp only [List.map_toArray, List.map_cons, List.map_nil]); first | done | rfl | (simp only [List.length_drop, List.length_take]; rfl)) ?_; (with_reducible refine (show_Text.calls _ _ y430 t433 t434 _ ?side1 ?side2 ?sideT A1.out).mono ?_); (case sideT => first | exact HT.out | exact Tabs.below HT.out (by repeat (first | (with_reducible first | exact HB.out | apply below_alloc | apply pw_below_drewN | apply below_drew1) | exact HB.out)) | (repeat (first | exact HT.out | apply Tabs.drewN | apply Tabs.drew | apply Tabs.alloc))); (case side1 => repeat (first | exact (Kd.N_reads' HO432.out).2.2 | (with_reducible refine Kd.C_alloc ?_ _) | (with_reducible refine Kd.C_drewN ?_ _) | (with_reducible refine Kd.C_drew ?_))); (case side2 => exact (Kd.N_reads' HO432.out).2.1); rintro e w11 ⟨rfl, hb⟩; refine ⟨_, rfl, ?_⟩; have n0_ := Aside0.mk (Kd.N_below (by (with_reducible repeat (first | apply Kd.N_alloc | apply Kd.N_drewN | apply Kd.N_drew)); exact HO432.out) hb); have n1_ := Aside0.mk (below_step (by repeat (first | (with_reducible first | exact HB.out | apply below_alloc | apply pw_below_drewN | apply below_drew1) | exact HB.out)) hb); clear HO432; clear HB; have HO432 := n0_; have HB := n1_; clear n0_ n1_; (try clear hb); (try clear hb2); (try clear hk); (try clear hi)) | ((with_reducible refine gate_dst (N := 15) rfl ?_); refine Kd.R_lit k61 _ 61 ?hg (N := 15) ?hd (xs := ([(⟨false, (⟨#[]⟩ : ByteArray), 0⟩ : S61)] : List (S61))) (inner := [.bool false, .string (⟨#[]⟩ : ByteArray), .int .i64 0]) (ok := fun _ => True) (okp := fun _ => True) ?hr ?hp (fun _ hk => hk) trivial (Below.refl _ _) (Nat.le_refl _) (by simp) ?_; (case hd => rfl); (case hg => rfl); (case hr => first | (go_simp; done) | (go_simp; rfl)); (case hp => exact (Reps.c3 (show Kd.M k61 _ _ _ (⟨false, (⟨#[]⟩ : ByteArray), 0⟩ : S61) [.bool false, .string (⟨#[]⟩ : ByteArray), .int .i64 0] from (k61_mkM _ _ _ (⟨false, (⟨#[]⟩ : ByteArray), 0⟩ : S61) )) (Reps.none _ _))); intro v436 w12 ho13 hb hg_ hnew_; clear hg_ hnew_; (first | rw [← Ny435.out] at ho13 | (simp only [Int.reduceToNat] at ho13; rw [← Ny435.out] at ho13)); have n0_ := Aside0.mk (Kd.N_elder' (by (with_reducible repeat (first | apply Kd.N_alloc | apply Kd.N_drewN | apply Kd.N_drew)); exact HO432.out) (Kd.R_base ho13) hb); have n1_ := Aside0.mk (Kd.R_lower ho13 (below_size (by repeat (first | (with_reducible first | exact HB.out | apply below_alloc | apply pw_below_drewN | apply below_drew1) | exact HB.out)))); have n2_ := Aside0.mk (below_step (by repeat (first | (with_reducible first | exact HB.out | apply below_alloc | apply pw_below_drewN | apply below_drew1) | exact HB.out)) hb); clear HO432; clear HB; have HO432 := n0_; have HO437 := n1_; have HB := n2_; clear n0_ n1_ n2_; clear hb ho13; obtain ⟨Ao14, co14, eo14⟩ := Kd.R_slice HO437.out; subst eo14) | ((with_reducible refine gate_dst (N := 16) rfl ?_); refine Kd.N_lit (Kd.slice 61 k61) _ 51 ?hg (N' := 16) ?hd (xs := ([y435] : List (List (S61)))) (inner := [.slice Ao14 y435.length co14]) (ok := (fun k_ => some k_ ≠ (.slice Ao10 y430.length co10 : Value).ownBlock)) (okp := (fun k_ => some k_ ≠ (.slice Ao10 y430.length co10 : Value).ownBlock)) ?hr ?hp (fun _ hk => hk) ((show ∀ k_, w12.heap.size ≤ k_ → (fun k_ => some k_ ≠ (.slice Ao10 y430.length co10 : Value).ownBlock) k_ from fun k_ hk => Kd.fresh' (Kd.N_lt (by (with_reducible repeat (first | apply Kd.N_alloc | apply Kd.N_drewN | apply Kd.N_drew)); exact HO432.out)) k_ hk) _ (Nat.le_refl _)) (Below.refl _ _) (Nat.le_refl _) (by simp) ?_; (case hd => rfl); (case hg => rfl); (case hr => first | (go_simp; done) | (go_simp; rfl)); (case hp => exact (Reps.one (show Kd.FK (Kd.slice 61 k61) _ _ y435 [.slice Ao14 y435.length co14] from (Kd.FK_slice_mk (Kd.R_reads' (Kd.R_mono (ok' := (fun k_ => some k_ ≠ (.slice Ao10 y430.length co10 : Value).ownBlock)) (Kd.R_apart' (HO437.out) (Kd.N_typed HO432.out) (by decide)) (fun k_ hk => hk.2))).2.1 (Kd.R_F (Kd.R_mono (ok' := (fun k_ => some k_ ≠ (.slice Ao10 y430.length co10 : Value).ownBlock)) (Kd.R_apart' (HO437.out) (Kd.N_typed HO432.out) (by decide)) (fun k_ hk => hk.2))))) (Reps.none _ _))); intro v439 w15 ho16 hb hg_ hnew_; clear hg_ hnew_; (first | rw [← Ny438.out] at ho16 | (simp only [Int.reduceToNat] at ho16; rw [← Ny438.out] at ho16)); have n0_ := Aside0.mk (Kd.N_elder' (by (with_reducible repeat (first | apply Kd.N_alloc | apply Kd.N_drewN | apply Kd.N_drew)); exact HO432.out) (by first | exact Kd.N_base ho16 | exact Kd.S_base ho16) hb); have n1_ := Aside0.mk (Kd.N_lower ho16 (below_size (by repeat (first | (with_reducible first | exact HB.out | apply below_alloc | apply pw_below_drewN | apply below_drew1) | exact HB.out)))); have n2_ := Aside0.mk (below_step (by repeat (first | (with_reducible first | exact HB.out | apply below_alloc | apply pw_below_drewN | apply below_drew1) | exact HB.out)) hb); clear HO432; clear HB; clear HO437; have HO432 := n0_; have HO440 := n1_; have HB := n2_; clear n0_ n1_ n2_; clear hb ho16; obtain ⟨Ao17, co17, eo17⟩ := Kd.N_slice HO440.out; subst eo17) | ((with_reducible refine gate_callee (f := 53) rfl ?_); refine goesL_ (some 17) rfl rfl Tryd.func53 (by kernel_rfl) rfl #[.slice Ao17 y438.length co17] rfl (by (try simp only [List.map_toArray, List.map_cons, List.map_nil]); first | done | rfl | (simp only [List.length_drop, List.length_take]; rfl)) ?_; (with_reducible refine (show_Text.calls _ _ y438 t441 t442 _ ?side1 ?side2 ?sideT A2.out).mono ?_); (case sideT => first | exact HT.out | exact Tabs.below HT.out (by repeat (first | (with_reducible first | exact HB.out | apply below_alloc | apply pw_below_drewN | apply below_drew1) | exact HB.out)) | (repeat (first | exact HT.out | apply Tabs.drewN | apply Tabs.drew | apply Tabs.alloc))); (case side1 => repeat (first | exact (Kd.N_reads' HO440.out).2.2 | (with_reducible refine Kd.C_alloc ?_ _) | (with_reducible refine Kd.C_drewN ?_ _) | (with_reducible refine Kd.C_drew ?_))); (case side2 => exact (Kd.N_reads' HO440.out).2.1); rintro e w18 ⟨rfl, hb⟩; refine ⟨_, rfl, ?_⟩; have n0_ := Aside0.mk (Kd.N_below (by (with_reducible repeat (first | apply Kd.N_alloc | apply Kd.N_drewN | apply Kd.N_drew)); exact HO432.out) hb); have n1_ := Aside0.mk (Kd.N_below (by (with_reducible repeat (first | apply Kd.N_alloc | apply Kd.N_drewN | apply Kd.N_drew)); exact HO440.out) hb); have n2_ := Aside0.mk (below_step (by repeat (first | (with_reducible first | exact HB.out | apply below_alloc | apply pw_below_drewN | apply below_drew1) | exact HB.out)) hb); clear HO432; clear HO440; clear HB; have HO432 := n0_; have HO440 := n1_; have HB := n2_; clear n0_ n1_ n2_; (try clear hb); (try clear hb2); (try clear hk); (try clear hi)))
      go_ret
      exact ⟨by first | rfl | (simp [errW_none, errW_some] <;> rfl) | (simp [*, errW_none, errW_some] <;> rfl), by repeat (first | (with_reducible first | exact HB.out | apply below_alloc | apply pw_below_drewN | apply below_drew1) | exact HB.out)⟩
    · rw [if_neg c4] at H
      have c4b0 : (t433.toList == ([119, 58, 120, 61, 49, 32, 114, 58, 121, 61, 48, 10] : List UInt8)) = false := beq_eq_false_iff_ne.mpr c4
      have c4b1 : (t433.toList != ([119, 58, 120, 61, 49, 32, 114, 58, 121, 61, 48, 10] : List UInt8)) = true := bne_iff_ne.mpr c4
      obtain rfl := Option.some.inj H
      go_enter Tryd.func52, Tryd.ntmps52
      go_wp2_with (first | ((with_reducible refine gate_dst (N := 8) rfl ?_); refine Kd.R_lit k61 _ 61 ?hg (N := 8) ?hd (xs := ([(⟨true, (⟨#[120]⟩ : ByteArray), 1⟩ : S61), (⟨false, (⟨#[121]⟩ : ByteArray), 0⟩ : S61)] : List (S61))) (inner := [.bool true, .string (⟨#[120]⟩ : ByteArray), .int .i64 1, .bool false, .string (⟨#[121]⟩ : ByteArray), .int .i64 0]) (ok := fun _ => True) (okp := fun _ => True) ?hr ?hp (fun _ hk => hk) trivial (Below.refl _ _) (Nat.le_refl _) (by simp) ?_; (case hd => rfl); (case hg => rfl); (case hr => first | (go_simp; done) | (go_simp; rfl)); (case hp => exact (Reps.c3 (show Kd.M k61 _ _ _ (⟨true, (⟨#[120]⟩ : ByteArray), 1⟩ : S61) [.bool true, .string (⟨#[120]⟩ : ByteArray), .int .i64 1] from (k61_mkM _ _ _ (⟨true, (⟨#[120]⟩ : ByteArray), 1⟩ : S61) )) (Reps.c3 (show Kd.M k61 _ _ _ (⟨false, (⟨#[121]⟩ : ByteArray), 0⟩ : S61) [.bool false, .string (⟨#[121]⟩ : ByteArray), .int .i64 0] from (k61_mkM _ _ _ (⟨false, (⟨#[121]⟩ : ByteArray), 0⟩ : S61) )) (Reps.none _ _)))); intro v428 w19 ho20 hb hg_ hnew_; clear hg_ hnew_; (first | rw [← Ny427.out] at ho20 | (simp only [Int.reduceToNat] at ho20; rw [← Ny427.out] at ho20)); have n0_ := Aside0.mk (Kd.R_lower ho20 (below_size (by repeat (first | (with_reducible first | exact HB.out | apply below_alloc | apply pw_below_drewN | apply below_drew1) | exact HB.out)))); have n1_ := Aside0.mk (below_step (by repeat (first | (with_reducible first | exact HB.out | apply below_alloc | apply pw_below_drewN | apply below_drew1) | exact HB.out)) hb); clear HB; have HO429 := n0_; have HB := n1_; clear n0_ n1_; clear hb ho20; obtain ⟨Ao21, co21, eo21⟩ := Kd.R_slice HO429.out; subst eo21) | ((with_reducible refine gate_dst (N := 9) rfl ?_); refine Kd.N_lit (Kd.slice 61 k61) _ 51 ?hg (N' := 9) ?hd (xs := ([y427] : List (List (S61)))) (inner := [.slice Ao21 y427.length co21]) (ok := (fun _ => True)) (okp := (fun _ => True)) ?hr ?hp (fun _ hk => hk) ((show ∀ k_, w19.heap.size ≤ k_ → (fun _ => True) k_ from fun k_ hk => trivial) _ (Nat.le_refl _)) (Below.refl _ _) (Nat.le_refl _) (by simp) ?_; (case hd => rfl); (case hg => rfl); (case hr => first | (go_simp; done) | (go_simp; rfl)); (case hp => exact (Reps.one (show Kd.FK (Kd.slice 61 k61) _ _ y427 [.slice Ao21 y427.length co21] from (Kd.FK_slice_mk (Kd.R_reads' (Kd.R_mono (ok' := (fun _ => True)) (HO429.out) (fun k_ hk => trivial))).2.1 (Kd.R_F (Kd.R_mono (ok' := (fun _ => True)) (HO429.out) (fun k_ hk => trivial))))) (Reps.none _ _))); intro v431 w22 ho23 hb hg_ hnew_; clear hg_ hnew_; (first | rw [← Ny430.out] at ho23 | (simp only [Int.reduceToNat] at ho23; rw [← Ny430.out] at ho23)); have n0_ := Aside0.mk (Kd.N_lower ho23 (below_size (by repeat (first | (with_reducible first | exact HB.out | apply below_alloc | apply pw_below_drewN | apply below_drew1) | exact HB.out)))); have n1_ := Aside0.mk (below_step (by repeat (first | (with_reducible first | exact HB.out | apply below_alloc | apply pw_below_drewN | apply below_drew1) | exact HB.out)) hb); clear HB; clear HO429; have HO432 := n0_; have HB := n1_; clear n0_ n1_; clear hb ho23; obtain ⟨Ao24, co24, eo24⟩ := Kd.N_slice HO432.out; subst eo24) | ((with_reducible refine gate_callee (f := 53) rfl ?_); refine goesL_ (some 10) rfl rfl Tryd.func53 (by kernel_rfl) rfl #[.slice Ao24 y430.length co24] rfl (by (try simp only [List.map_toArray, List.map_cons, List.map_nil]); first | done | rfl | (simp only [List.length_drop, List.length_take]; rfl)) ?_; (with_reducible refine (show_Text.calls _ _ y430 t433 t434 _ ?side1 ?side2 ?sideT A1.out).mono ?_); (case sideT => first | exact HT.out | exact Tabs.below HT.out (by repeat (first | (with_reducible first | exact HB.out | apply below_alloc | apply pw_below_drewN | apply below_drew1) | exact HB.out)) | (repeat (first | exact HT.out | apply Tabs.drewN | apply Tabs.drew | apply Tabs.alloc))); (case side1 => repeat (first | exact (Kd.N_reads' HO432.out).2.2 | (with_reducible refine Kd.C_alloc ?_ _) | (with_reducible refine Kd.C_drewN ?_ _) | (with_reducible refine Kd.C_drew ?_))); (case side2 => exact (Kd.N_reads' HO432.out).2.1); rintro e w25 ⟨rfl, hb⟩; refine ⟨_, rfl, ?_⟩; have n0_ := Aside0.mk (Kd.N_below (by (with_reducible repeat (first | apply Kd.N_alloc | apply Kd.N_drewN | apply Kd.N_drew)); exact HO432.out) hb); have n1_ := Aside0.mk (below_step (by repeat (first | (with_reducible first | exact HB.out | apply below_alloc | apply pw_below_drewN | apply below_drew1) | exact HB.out)) hb); clear HO432; clear HB; have HO432 := n0_; have HB := n1_; clear n0_ n1_; (try clear hb); (try clear hb2); (try clear hk); (try clear hi)) | ((with_reducible refine gate_dst (N := 15) rfl ?_); refine Kd.R_lit k61 _ 61 ?hg (N := 15) ?hd (xs := ([(⟨false, (⟨#[]⟩ : ByteArray), 0⟩ : S61)] : List (S61))) (inner := [.bool false, .string (⟨#[]⟩ : ByteArray), .int .i64 0]) (ok := fun _ => True) (okp := fun _ => True) ?hr ?hp (fun _ hk => hk) trivial (Below.refl _ _) (Nat.le_refl _) (by simp) ?_; (case hd => rfl); (case hg => rfl); (case hr => first | (go_simp; done) | (go_simp; rfl)); (case hp => exact (Reps.c3 (show Kd.M k61 _ _ _ (⟨false, (⟨#[]⟩ : ByteArray), 0⟩ : S61) [.bool false, .string (⟨#[]⟩ : ByteArray), .int .i64 0] from (k61_mkM _ _ _ (⟨false, (⟨#[]⟩ : ByteArray), 0⟩ : S61) )) (Reps.none _ _))); intro v436 w26 ho27 hb hg_ hnew_; clear hg_ hnew_; (first | rw [← Ny435.out] at ho27 | (simp only [Int.reduceToNat] at ho27; rw [← Ny435.out] at ho27)); have n0_ := Aside0.mk (Kd.N_elder' (by (with_reducible repeat (first | apply Kd.N_alloc | apply Kd.N_drewN | apply Kd.N_drew)); exact HO432.out) (Kd.R_base ho27) hb); have n1_ := Aside0.mk (Kd.R_lower ho27 (below_size (by repeat (first | (with_reducible first | exact HB.out | apply below_alloc | apply pw_below_drewN | apply below_drew1) | exact HB.out)))); have n2_ := Aside0.mk (below_step (by repeat (first | (with_reducible first | exact HB.out | apply below_alloc | apply pw_below_drewN | apply below_drew1) | exact HB.out)) hb); clear HO432; clear HB; have HO432 := n0_; have HO437 := n1_; have HB := n2_; clear n0_ n1_ n2_; clear hb ho27; obtain ⟨Ao28, co28, eo28⟩ := Kd.R_slice HO437.out; subst eo28) | ((with_reducible refine gate_dst (N := 16) rfl ?_); refine Kd.N_lit (Kd.slice 61 k61) _ 51 ?hg (N' := 16) ?hd (xs := ([y435] : List (List (S61)))) (inner := [.slice Ao28 y435.length co28]) (ok := (fun k_ => some k_ ≠ (.slice Ao24 y430.length co24 : Value).ownBlock)) (okp := (fun k_ => some k_ ≠ (.slice Ao24 y430.length co24 : Value).ownBlock)) ?hr ?hp (fun _ hk => hk) ((show ∀ k_, w26.heap.size ≤ k_ → (fun k_ => some k_ ≠ (.slice Ao24 y430.length co24 : Value).ownBlock) k_ from fun k_ hk => Kd.fresh' (Kd.N_lt (by (with_reducible repeat (first | apply Kd.N_alloc | apply Kd.N_drewN | apply Kd.N_drew)); exact HO432.out)) k_ hk) _ (Nat.le_refl _)) (Below.refl _ _) (Nat.le_refl _) (by simp) ?_; (case hd => rfl); (case hg => rfl); (case hr => first | (go_simp; done) | (go_simp; rfl)); (case hp => exact (Reps.one (show Kd.FK (Kd.slice 61 k61) _ _ y435 [.slice Ao28 y435.length co28] from (Kd.FK_slice_mk (Kd.R_reads' (Kd.R_mono (ok' := (fun k_ => some k_ ≠ (.slice Ao24 y430.length co24 : Value).ownBlock)) (Kd.R_apart' (HO437.out) (Kd.N_typed HO432.out) (by decide)) (fun k_ hk => hk.2))).2.1 (Kd.R_F (Kd.R_mono (ok' := (fun k_ => some k_ ≠ (.slice Ao24 y430.length co24 : Value).ownBlock)) (Kd.R_apart' (HO437.out) (Kd.N_typed HO432.out) (by decide)) (fun k_ hk => hk.2))))) (Reps.none _ _))); intro v439 w29 ho30 hb hg_ hnew_; clear hg_ hnew_; (first | rw [← Ny438.out] at ho30 | (simp only [Int.reduceToNat] at ho30; rw [← Ny438.out] at ho30)); have n0_ := Aside0.mk (Kd.N_elder' (by (with_reducible repeat (first | apply Kd.N_alloc | apply Kd.N_drewN | apply Kd.N_drew)); exact HO432.out) (by first | exact Kd.N_base ho30 | exact Kd.S_base ho30) hb); have n1_ := Aside0.mk (Kd.N_lower ho30 (below_size (by repeat (first | (with_reducible first | exact HB.out | apply below_alloc | apply pw_below_drewN | apply below_drew1) | exact HB.out)))); have n2_ := Aside0.mk (below_step (by repeat (first | (with_reducible first | exact HB.out | apply below_alloc | apply pw_below_drewN | apply below_drew1) | exact HB.out)) hb); clear HO432; clear HB; clear HO437; have HO432 := n0_; have HO440 := n1_; have HB := n2_; clear n0_ n1_ n2_; clear hb ho30; obtain ⟨Ao31, co31, eo31⟩ := Kd.N_slice HO440.out; subst eo31) | ((with_reducible refine gate_callee (f := 53) rfl ?_); refine goesL_ (some 17) rfl rfl Tryd.func53 (by kernel_rfl) rfl #[.slice Ao31 y438.length co31] rfl (by (try simp only [List.map_toArray, List.map_cons, List.map_nil]); first | done | rfl | (simp only [List.length_drop, List.length_take]; rfl)) ?_; (with_reducible refine (show_Text.calls _ _ y438 t441 t442 _ ?side1 ?side2 ?sideT A2.out).mono ?_); (case sideT => first | exact HT.out | exact Tabs.below HT.out (by repeat (first | (with_reducible first | exact HB.out | apply below_alloc | apply pw_below_drewN | apply below_drew1) | exact HB.out)) | (repeat (first | exact HT.out | apply Tabs.drewN | apply Tabs.drew | apply Tabs.alloc))); (case side1 => repeat (first | exact (Kd.N_reads' HO440.out).2.2 | (with_reducible refine Kd.C_alloc ?_ _) | (with_reducible refine Kd.C_drewN ?_ _) | (with_reducible refine Kd.C_drew ?_))); (case side2 => exact (Kd.N_reads' HO440.out).2.1); rintro e w32 ⟨rfl, hb⟩; refine ⟨_, rfl, ?_⟩; have n0_ := Aside0.mk (Kd.N_below (by (with_reducible repeat (first | apply Kd.N_alloc | apply Kd.N_drewN | apply Kd.N_drew)); exact HO432.out) hb); have n1_ := Aside0.mk (Kd.N_below (by (with_reducible repeat (first | apply Kd.N_alloc | apply Kd.N_drewN | apply Kd.N_drew)); exact HO440.out) hb); have n2_ := Aside0.mk (below_step (by repeat (first | (with_reducible first | exact HB.out | apply below_alloc | apply pw_below_drewN | apply below_drew1) | exact HB.out)) hb); clear HO432; clear HO440; clear HB; have HO432 := n0_; have HO440 := n1_; have HB := n2_; clear n0_ n1_ n2_; (try clear hb); (try clear hb2); (try clear hk); (try clear hi)))
      go_ret
      exact ⟨by first | rfl | (simp [errW_none, errW_some] <;> rfl) | (simp [*, errW_none, errW_some] <;> rfl), by repeat (first | (with_reducible first | exact HB.out | apply below_alloc | apply pw_below_drewN | apply below_drew1) | exact HB.out)⟩
  · rw [if_neg c3] at H
    have c3b0 : (t434 == 0) = false := beq_eq_false_iff_ne.mpr c3
    have c3b1 : (t434 != 0) = true := bne_iff_ne.mpr c3
    obtain rfl := Option.some.inj H
    go_enter Tryd.func52, Tryd.ntmps52
    go_wp2_with (first | ((with_reducible refine gate_dst (N := 8) rfl ?_); refine Kd.R_lit k61 _ 61 ?hg (N := 8) ?hd (xs := ([(⟨true, (⟨#[120]⟩ : ByteArray), 1⟩ : S61), (⟨false, (⟨#[121]⟩ : ByteArray), 0⟩ : S61)] : List (S61))) (inner := [.bool true, .string (⟨#[120]⟩ : ByteArray), .int .i64 1, .bool false, .string (⟨#[121]⟩ : ByteArray), .int .i64 0]) (ok := fun _ => True) (okp := fun _ => True) ?hr ?hp (fun _ hk => hk) trivial (Below.refl _ _) (Nat.le_refl _) (by simp) ?_; (case hd => rfl); (case hg => rfl); (case hr => first | (go_simp; done) | (go_simp; rfl)); (case hp => exact (Reps.c3 (show Kd.M k61 _ _ _ (⟨true, (⟨#[120]⟩ : ByteArray), 1⟩ : S61) [.bool true, .string (⟨#[120]⟩ : ByteArray), .int .i64 1] from (k61_mkM _ _ _ (⟨true, (⟨#[120]⟩ : ByteArray), 1⟩ : S61) )) (Reps.c3 (show Kd.M k61 _ _ _ (⟨false, (⟨#[121]⟩ : ByteArray), 0⟩ : S61) [.bool false, .string (⟨#[121]⟩ : ByteArray), .int .i64 0] from (k61_mkM _ _ _ (⟨false, (⟨#[121]⟩ : ByteArray), 0⟩ : S61) )) (Reps.none _ _)))); intro v428 w33 ho34 hb hg_ hnew_; clear hg_ hnew_; (first | rw [← Ny427.out] at ho34 | (simp only [Int.reduceToNat] at ho34; rw [← Ny427.out] at ho34)); have n0_ := Aside0.mk (Kd.R_lower ho34 (below_size (by repeat (first | (with_reducible first | exact HB.out | apply below_alloc | apply pw_below_drewN | apply below_drew1) | exact HB.out)))); have n1_ := Aside0.mk (below_step (by repeat (first | (with_reducible first | exact HB.out | apply below_alloc | apply pw_below_drewN | apply below_drew1) | exact HB.out)) hb); clear HB; have HO429 := n0_; have HB := n1_; clear n0_ n1_; clear hb ho34; obtain ⟨Ao35, co35, eo35⟩ := Kd.R_slice HO429.out; subst eo35) | ((with_reducible refine gate_dst (N := 9) rfl ?_); refine Kd.N_lit (Kd.slice 61 k61) _ 51 ?hg (N' := 9) ?hd (xs := ([y427] : List (List (S61)))) (inner := [.slice Ao35 y427.length co35]) (ok := (fun _ => True)) (okp := (fun _ => True)) ?hr ?hp (fun _ hk => hk) ((show ∀ k_, w33.heap.size ≤ k_ → (fun _ => True) k_ from fun k_ hk => trivial) _ (Nat.le_refl _)) (Below.refl _ _) (Nat.le_refl _) (by simp) ?_; (case hd => rfl); (case hg => rfl); (case hr => first | (go_simp; done) | (go_simp; rfl)); (case hp => exact (Reps.one (show Kd.FK (Kd.slice 61 k61) _ _ y427 [.slice Ao35 y427.length co35] from (Kd.FK_slice_mk (Kd.R_reads' (Kd.R_mono (ok' := (fun _ => True)) (HO429.out) (fun k_ hk => trivial))).2.1 (Kd.R_F (Kd.R_mono (ok' := (fun _ => True)) (HO429.out) (fun k_ hk => trivial))))) (Reps.none _ _))); intro v431 w36 ho37 hb hg_ hnew_; clear hg_ hnew_; (first | rw [← Ny430.out] at ho37 | (simp only [Int.reduceToNat] at ho37; rw [← Ny430.out] at ho37)); have n0_ := Aside0.mk (Kd.N_lower ho37 (below_size (by repeat (first | (with_reducible first | exact HB.out | apply below_alloc | apply pw_below_drewN | apply below_drew1) | exact HB.out)))); have n1_ := Aside0.mk (below_step (by repeat (first | (with_reducible first | exact HB.out | apply below_alloc | apply pw_below_drewN | apply below_drew1) | exact HB.out)) hb); clear HB; clear HO429; have HO432 := n0_; have HB := n1_; clear n0_ n1_; clear hb ho37; obtain ⟨Ao38, co38, eo38⟩ := Kd.N_slice HO432.out; subst eo38) | ((with_reducible refine gate_callee (f := 53) rfl ?_); refine goesL_ (some 10) rfl rfl Tryd.func53 (by kernel_rfl) rfl #[.slice Ao38 y430.length co38] rfl (by (try simp only [List.map_toArray, List.map_cons, List.map_nil]); first | done | rfl | (simp only [List.length_drop, List.length_take]; rfl)) ?_; (with_reducible refine (show_Text.calls _ _ y430 t433 t434 _ ?side1 ?side2 ?sideT A1.out).mono ?_); (case sideT => first | exact HT.out | exact Tabs.below HT.out (by repeat (first | (with_reducible first | exact HB.out | apply below_alloc | apply pw_below_drewN | apply below_drew1) | exact HB.out)) | (repeat (first | exact HT.out | apply Tabs.drewN | apply Tabs.drew | apply Tabs.alloc))); (case side1 => repeat (first | exact (Kd.N_reads' HO432.out).2.2 | (with_reducible refine Kd.C_alloc ?_ _) | (with_reducible refine Kd.C_drewN ?_ _) | (with_reducible refine Kd.C_drew ?_))); (case side2 => exact (Kd.N_reads' HO432.out).2.1); rintro e w39 ⟨rfl, hb⟩; refine ⟨_, rfl, ?_⟩; have n0_ := Aside0.mk (Kd.N_below (by (with_reducible repeat (first | apply Kd.N_alloc | apply Kd.N_drewN | apply Kd.N_drew)); exact HO432.out) hb); have n1_ := Aside0.mk (below_step (by repeat (first | (with_reducible first | exact HB.out | apply below_alloc | apply pw_below_drewN | apply below_drew1) | exact HB.out)) hb); clear HO432; clear HB; have HO432 := n0_; have HB := n1_; clear n0_ n1_; (try clear hb); (try clear hb2); (try clear hk); (try clear hi)) | ((with_reducible refine gate_dst (N := 15) rfl ?_); refine Kd.R_lit k61 _ 61 ?hg (N := 15) ?hd (xs := ([(⟨false, (⟨#[]⟩ : ByteArray), 0⟩ : S61)] : List (S61))) (inner := [.bool false, .string (⟨#[]⟩ : ByteArray), .int .i64 0]) (ok := fun _ => True) (okp := fun _ => True) ?hr ?hp (fun _ hk => hk) trivial (Below.refl _ _) (Nat.le_refl _) (by simp) ?_; (case hd => rfl); (case hg => rfl); (case hr => first | (go_simp; done) | (go_simp; rfl)); (case hp => exact (Reps.c3 (show Kd.M k61 _ _ _ (⟨false, (⟨#[]⟩ : ByteArray), 0⟩ : S61) [.bool false, .string (⟨#[]⟩ : ByteArray), .int .i64 0] from (k61_mkM _ _ _ (⟨false, (⟨#[]⟩ : ByteArray), 0⟩ : S61) )) (Reps.none _ _))); intro v436 w40 ho41 hb hg_ hnew_; clear hg_ hnew_; (first | rw [← Ny435.out] at ho41 | (simp only [Int.reduceToNat] at ho41; rw [← Ny435.out] at ho41)); have n0_ := Aside0.mk (Kd.N_elder' (by (with_reducible repeat (first | apply Kd.N_alloc | apply Kd.N_drewN | apply Kd.N_drew)); exact HO432.out) (Kd.R_base ho41) hb); have n1_ := Aside0.mk (Kd.R_lower ho41 (below_size (by repeat (first | (with_reducible first | exact HB.out | apply below_alloc | apply pw_below_drewN | apply below_drew1) | exact HB.out)))); have n2_ := Aside0.mk (below_step (by repeat (first | (with_reducible first | exact HB.out | apply below_alloc | apply pw_below_drewN | apply below_drew1) | exact HB.out)) hb); clear HO432; clear HB; have HO432 := n0_; have HO437 := n1_; have HB := n2_; clear n0_ n1_ n2_; clear hb ho41; obtain ⟨Ao42, co42, eo42⟩ := Kd.R_slice HO437.out; subst eo42) | ((with_reducible refine gate_dst (N := 16) rfl ?_); refine Kd.N_lit (Kd.slice 61 k61) _ 51 ?hg (N' := 16) ?hd (xs := ([y435] : List (List (S61)))) (inner := [.slice Ao42 y435.length co42]) (ok := (fun k_ => some k_ ≠ (.slice Ao38 y430.length co38 : Value).ownBlock)) (okp := (fun k_ => some k_ ≠ (.slice Ao38 y430.length co38 : Value).ownBlock)) ?hr ?hp (fun _ hk => hk) ((show ∀ k_, w40.heap.size ≤ k_ → (fun k_ => some k_ ≠ (.slice Ao38 y430.length co38 : Value).ownBlock) k_ from fun k_ hk => Kd.fresh' (Kd.N_lt (by (with_reducible repeat (first | apply Kd.N_alloc | apply Kd.N_drewN | apply Kd.N_drew)); exact HO432.out)) k_ hk) _ (Nat.le_refl _)) (Below.refl _ _) (Nat.le_refl _) (by simp) ?_; (case hd => rfl); (case hg => rfl); (case hr => first | (go_simp; done) | (go_simp; rfl)); (case hp => exact (Reps.one (show Kd.FK (Kd.slice 61 k61) _ _ y435 [.slice Ao42 y435.length co42] from (Kd.FK_slice_mk (Kd.R_reads' (Kd.R_mono (ok' := (fun k_ => some k_ ≠ (.slice Ao38 y430.length co38 : Value).ownBlock)) (Kd.R_apart' (HO437.out) (Kd.N_typed HO432.out) (by decide)) (fun k_ hk => hk.2))).2.1 (Kd.R_F (Kd.R_mono (ok' := (fun k_ => some k_ ≠ (.slice Ao38 y430.length co38 : Value).ownBlock)) (Kd.R_apart' (HO437.out) (Kd.N_typed HO432.out) (by decide)) (fun k_ hk => hk.2))))) (Reps.none _ _))); intro v439 w43 ho44 hb hg_ hnew_; clear hg_ hnew_; (first | rw [← Ny438.out] at ho44 | (simp only [Int.reduceToNat] at ho44; rw [← Ny438.out] at ho44)); have n0_ := Aside0.mk (Kd.N_elder' (by (with_reducible repeat (first | apply Kd.N_alloc | apply Kd.N_drewN | apply Kd.N_drew)); exact HO432.out) (by first | exact Kd.N_base ho44 | exact Kd.S_base ho44) hb); have n1_ := Aside0.mk (Kd.N_lower ho44 (below_size (by repeat (first | (with_reducible first | exact HB.out | apply below_alloc | apply pw_below_drewN | apply below_drew1) | exact HB.out)))); have n2_ := Aside0.mk (below_step (by repeat (first | (with_reducible first | exact HB.out | apply below_alloc | apply pw_below_drewN | apply below_drew1) | exact HB.out)) hb); clear HO432; clear HB; clear HO437; have HO432 := n0_; have HO440 := n1_; have HB := n2_; clear n0_ n1_ n2_; clear hb ho44; obtain ⟨Ao45, co45, eo45⟩ := Kd.N_slice HO440.out; subst eo45) | ((with_reducible refine gate_callee (f := 53) rfl ?_); refine goesL_ (some 17) rfl rfl Tryd.func53 (by kernel_rfl) rfl #[.slice Ao45 y438.length co45] rfl (by (try simp only [List.map_toArray, List.map_cons, List.map_nil]); first | done | rfl | (simp only [List.length_drop, List.length_take]; rfl)) ?_; (with_reducible refine (show_Text.calls _ _ y438 t441 t442 _ ?side1 ?side2 ?sideT A2.out).mono ?_); (case sideT => first | exact HT.out | exact Tabs.below HT.out (by repeat (first | (with_reducible first | exact HB.out | apply below_alloc | apply pw_below_drewN | apply below_drew1) | exact HB.out)) | (repeat (first | exact HT.out | apply Tabs.drewN | apply Tabs.drew | apply Tabs.alloc))); (case side1 => repeat (first | exact (Kd.N_reads' HO440.out).2.2 | (with_reducible refine Kd.C_alloc ?_ _) | (with_reducible refine Kd.C_drewN ?_ _) | (with_reducible refine Kd.C_drew ?_))); (case side2 => exact (Kd.N_reads' HO440.out).2.1); rintro e w46 ⟨rfl, hb⟩; refine ⟨_, rfl, ?_⟩; have n0_ := Aside0.mk (Kd.N_below (by (with_reducible repeat (first | apply Kd.N_alloc | apply Kd.N_drewN | apply Kd.N_drew)); exact HO432.out) hb); have n1_ := Aside0.mk (Kd.N_below (by (with_reducible repeat (first | apply Kd.N_alloc | apply Kd.N_drewN | apply Kd.N_drew)); exact HO440.out) hb); have n2_ := Aside0.mk (below_step (by repeat (first | (with_reducible first | exact HB.out | apply below_alloc | apply pw_below_drewN | apply below_drew1) | exact HB.out)) hb); clear HO432; clear HO440; clear HB; have HO432 := n0_; have HO440 := n1_; have HB := n2_; clear n0_ n1_ n2_; (try clear hb); (try clear hb2); (try clear hk); (try clear hi)))
    go_ret
    exact ⟨by first | rfl | (simp [errW_none, errW_some] <;> rfl) | (simp [*, errW_none, errW_some] <;> rfl), by repeat (first | (with_reducible first | exact HB.out | apply below_alloc | apply pw_below_drewN | apply below_drew1) | exact HB.out)⟩

-- GIVEN: function 49 (eyewitnessref05_Put)

/-! ### eyewitnessref08_Op: function 56 -/
def eyewitnessref08_Op.f (k : Nat) (a0_0 : Bool) (a0_1 : ByteArray) (a0_2 : Int) : Option (ByteArray) := if a0_0 = true then (if 2 + a0_1.size ≤ 9223372036854775807 then (if ((⟨#[119, 58]⟩ : ByteArray) ++ a0_1).size + 1 ≤ 9223372036854775807 then ((eyewitnessref05_Put.f k a0_2).bind fun t444 => (if (((⟨#[119, 58]⟩ : ByteArray) ++ a0_1) ++ (⟨#[61]⟩ : ByteArray)).size + t444.size ≤ 9223372036854775807 then (some ((((⟨#[119, 58]⟩ : ByteArray) ++ a0_1) ++ (⟨#[61]⟩ : ByteArray)) ++ t444)) else (none))) else (none)) else (none)) else (if 2 + a0_1.size ≤ 9223372036854775807 then (if ((⟨#[114, 58]⟩ : ByteArray) ++ a0_1).size + 1 ≤ 9223372036854775807 then ((eyewitnessref05_Put.f k a0_2).bind fun t445 => (if (((⟨#[114, 58]⟩ : ByteArray) ++ a0_1) ++ (⟨#[61]⟩ : ByteArray)).size + t445.size ≤ 9223372036854775807 then (some ((((⟨#[114, 58]⟩ : ByteArray) ++ a0_1) ++ (⟨#[61]⟩ : ByteArray)) ++ t445)) else (none))) else (none)) else (none))
theorem eyewitnessref08_Op.mono : ∀ a0 a1 a2 k, LeO (eyewitnessref08_Op.f k a0 a1 a2) (eyewitnessref08_Op.f (k + 1) a0 a1 a2) := by
  intro a0 a1 a2 k
  unfold eyewitnessref08_Op.f
  repeat' first
      | (with_reducible exact eyewitnessref05_Put.mono _ _)
      | (with_reducible exact LeO.refl _)
      | (with_reducible exact LeO.none _)
      | (with_reducible refine LeO.ite ?_ ?_)
      | (with_reducible refine LeO.bind ?_ (fun _ => ?_))
      | exact eyewitnessref05_Put.mono _ _
      | exact LeO.none _
      | refine LeO.ite ?_ ?_
      | refine LeO.bind ?_ (fun _ => ?_)
def eyewitnessref08_Op.T4 : Bool × List (List Nat × List Nat) := (true, [([], []), ([], []), ([1], [1]), ([0, 2], [0, 2]), ([3], [3]), ([], []), ([5], [5]), ([6], [6]), ([4, 7], [4, 7]), ([8, 7, 0, 1, 2, 3, 4, 5, 6, 7, 8], [8])])
def eyewitnessref08_Op.B4 : List Nat := [0, 0, 2, 7, 15, 0, 32, 96, 255, 511]
theorem eyewitnessref08_Op.tab4 : rtab .any (opsOf Tryd.f56 4) = eyewitnessref08_Op.T4 := by kernel_rfl
theorem eyewitnessref08_Op.bits4 : waitsOk eyewitnessref08_Op.T4.2 eyewitnessref08_Op.B4 = true := by kernel_rfl
set_option maxHeartbeats 8000000 in
set_option maxRecDepth 100000 in
theorem eyewitnessref08_Op.calls (k : Nat) (a0_0 : Bool) (a0_1 : ByteArray) (a0_2 : Int) (r : ByteArray) (w : World) (h : eyewitnessref08_Op.f k a0_0 a0_1 a0_2 = some r) :
    Calls Tryd.prog 56 #[.agg #[.bool a0_0, .string a0_1, .int .i64 a0_2]] w fun e w' => e = .returned (.string r) ∧ Below w.heap.size w w' := by
  have hu61 := Tryd.underlying61
  have HB := Aside0.mk (Below.refl w.heap.size w)
  have H : (if a0_0 = true then (if 2 + a0_1.size ≤ 9223372036854775807 then (if ((⟨#[119, 58]⟩ : ByteArray) ++ a0_1).size + 1 ≤ 9223372036854775807 then ((eyewitnessref05_Put.f k a0_2).bind fun t444 => (if (((⟨#[119, 58]⟩ : ByteArray) ++ a0_1) ++ (⟨#[61]⟩ : ByteArray)).size + t444.size ≤ 9223372036854775807 then (some ((((⟨#[119, 58]⟩ : ByteArray) ++ a0_1) ++ (⟨#[61]⟩ : ByteArray)) ++ t444)) else (none))) else (none)) else (none)) else (if 2 + a0_1.size ≤ 9223372036854775807 then (if ((⟨#[114, 58]⟩ : ByteArray) ++ a0_1).size + 1 ≤ 9223372036854775807 then ((eyewitnessref05_Put.f k a0_2).bind fun t445 => (if (((⟨#[114, 58]⟩ : ByteArray) ++ a0_1) ++ (⟨#[61]⟩ : ByteArray)).size + t445.size ≤ 9223372036854775807 then (some ((((⟨#[114, 58]⟩ : ByteArray) ++ a0_1) ++ (⟨#[61]⟩ : ByteArray)) ++ t445)) else (none))) else (none)) else (none))) = some r := h
  clear h
  by_cases c2 : a0_0 = true
  · subst c2
    have H1 : (if 2 + a0_1.size ≤ 9223372036854775807 then (if ((⟨#[119, 58]⟩ : ByteArray) ++ a0_1).size + 1 ≤ 9223372036854775807 then ((eyewitnessref05_Put.f k a0_2).bind fun t444 => (if (((⟨#[119, 58]⟩ : ByteArray) ++ a0_1) ++ (⟨#[61]⟩ : ByteArray)).size + t444.size ≤ 9223372036854775807 then (some ((((⟨#[119, 58]⟩ : ByteArray) ++ a0_1) ++ (⟨#[61]⟩ : ByteArray)) ++ t444)) else (none))) else (none)) else (none)) = some r := by rw [if_pos rfl] at H; exact H
    clear H
    have H := H1
    clear H1
    by_cases c3 : 2 + a0_1.size ≤ 9223372036854775807
    · rw [if_pos c3] at H
      have c3b0 := eq_true c3
      have c3b1 : decide (2 + a0_1.size ≤ 9223372036854775807) = true := decide_eq_true c3
      try have c3b2 : (9223372036854775807 < 2 + a0_1.size) = False := eq_false (Nat.not_lt.2 c3)
      by_cases c4 : ((⟨#[119, 58]⟩ : ByteArray) ++ a0_1).size + 1 ≤ 9223372036854775807
      · rw [if_pos c4] at H
        have c4b0 := eq_true c4
        have c4b1 : decide (((⟨#[119, 58]⟩ : ByteArray) ++ a0_1).size + 1 ≤ 9223372036854775807) = true := decide_eq_true c4
        try have c4b2 : (9223372036854775807 < ((⟨#[119, 58]⟩ : ByteArray) ++ a0_1).size + 1) = False := eq_false (Nat.not_lt.2 c4)
        try (have c4b3 := c4b2; simp only [ByteArray.size_append] at c4b3)
        try (have c4b4 := c4b2; simp only [ByteArray.size_append, (show ∀ (x : UInt8) (l : List UInt8), (⟨(x :: l).toArray⟩ : ByteArray).size = l.length + 1 from fun x l => by simp [ByteArray.size]), List.length_cons, List.length_nil, Nat.zero_add, Nat.reduceAdd] at c4b4)
        replace H := Option.bind_eq_some_iff.mp H
        obtain ⟨t444, A50, H⟩ := H
        replace H : (if (((⟨#[119, 58]⟩ : ByteArray) ++ a0_1) ++ (⟨#[61]⟩ : ByteArray)).size + t444.size ≤ 9223372036854775807 then (some ((((⟨#[119, 58]⟩ : ByteArray) ++ a0_1) ++ (⟨#[61]⟩ : ByteArray)) ++ t444)) else (none)) = some r := H
        have A5 := Aside0.mk A50
        clear A50
        by_cases c6 : (((⟨#[119, 58]⟩ : ByteArray) ++ a0_1) ++ (⟨#[61]⟩ : ByteArray)).size + t444.size ≤ 9223372036854775807
        · rw [if_pos c6] at H
          have c6b0 := eq_true c6
          have c6b1 : decide ((((⟨#[119, 58]⟩ : ByteArray) ++ a0_1) ++ (⟨#[61]⟩ : ByteArray)).size + t444.size ≤ 9223372036854775807) = true := decide_eq_true c6
          try have c6b2 : (9223372036854775807 < (((⟨#[119, 58]⟩ : ByteArray) ++ a0_1) ++ (⟨#[61]⟩ : ByteArray)).size + t444.size) = False := eq_false (Nat.not_lt.2 c6)
          try (have c6b3 := c6b2; simp only [ByteArray.size_append] at c6b3)
          try (have c6b4 := c6b2; simp only [ByteArray.size_append, (show ∀ (x : UInt8) (l : List UInt8), (⟨(x :: l).toArray⟩ : ByteArray).size = l.length + 1 from fun x l => by simp [ByteArray.size]), List.length_cons, List.length_nil, Nat.zero_add, Nat.reduceAdd] at c6b4)
          obtain rfl := Option.some.inj H
          go_enter Tryd.func56, Tryd.ntmps56
          try go_wp2_with (first | ((with_reducible refine gate_dst (N := 1) rfl ?_); refine box_event ?hg (N := 1) ?hd (cs := #[.bool true, .string a0_1, .int .i64 a0_2]) (t := 61) ?hr ?_; (case hd => rfl); (case hg => rfl); (case hr => first | (go_simp; done) | (go_simp; rfl)); intro gb443 hg w7 hbox hb; have n0_ := Aside0.mk (below_step (by repeat (first | (with_reducible first | exact HB.out | apply below_alloc | apply pw_below_drewN | apply below_drew1) | exact HB.out)) hb); have n1_ := Aside0.mk (hbox); have n2_ := Aside0.mk ((by rw [hg]; exact (below_size (by repeat (first | (with_reducible first | exact HB.out | apply below_alloc | apply pw_below_drewN | apply below_drew1) | exact HB.out))) : w.heap.size ≤ gb443)); have n3_ := Aside0.mk ((by rw [hg]; exact (below_size (by repeat (first | (with_reducible first | exact HB.out | apply below_alloc | apply pw_below_drewN | apply below_drew1) | exact HB.out))) : w.heap.size ≤ gb443)); clear HB; have HB := n0_; have BK443 := n1_; have GW443 := n2_; have GE443 := n3_; clear n0_ n1_ n2_ n3_; clear hb hbox hg; have hcz8_0 : w7.cell? ⟨gb443, 0, none⟩ = some (.bool true) := (blk_cell BK443.out 0).trans rfl; have hcz8_1 : w7.cell? ⟨gb443, 1, none⟩ = some (.string a0_1) := (blk_cell BK443.out 1).trans rfl; have hcz8_2 : w7.cell? ⟨gb443, 2, none⟩ = some (.int .i64 a0_2) := (blk_cell BK443.out 2).trans rfl; have hfz8_0 := blk_frozen BK443.out 0; have hfz8_1 := blk_frozen BK443.out 1; have hfz8_2 := blk_frozen BK443.out 2))
          have n0_ := Aside0.mk (blk_drew BK443.out)
          have n1_ := Aside0.mk (below_drew1 HB.out)
          clear BK443
          clear HB
          have BK443 := n0_
          have HB := n1_
          clear n0_ n1_
          refine start_ (n := 10) (S := fun w' => w'.cell? ⟨gb443, 0, none⟩ = some (.bool true) ∧ w'.cell? ⟨gb443, 1, none⟩ = some (.string a0_1) ∧ w'.cell? ⟨gb443, 2, none⟩ = some (.int .i64 a0_2)) (ds := []) #[false, false, false, false, false, false, false, false, false, false] (by kernel_rfl) rfl rfl ⟨(blk_cell BK443.out 0).trans rfl, (blk_cell BK443.out 1).trans rfl, (blk_cell BK443.out 2).trans rfl⟩ (fun hHeld => ?_); refine with_tabW eyewitnessref08_Op.tab4 eyewitnessref08_Op.bits4 (fun HT_ HW_ => ?_)
          generalize w7.drew = w9 at BK443 HB hHeld ⊢
          refine pure_ (i := 0) (N := some 6) (v := ?_) (a' := ?_) #[true, false, false, false, false, false, false, false, false, false] rfl rfl (any_of HT_.out (by kernel_rfl)) (fun _ _ _ h => h) (Or.inl ⟨by rfl, ?_⟩) ?_ ?_
          rotate_left
          · intro w'
            go_simp
            with_reducible rfl
          rotate_left
          · simp only [Act.put, List.setIfInBounds_toArray, List.set_cons_zero, List.set_cons_succ, i64_w, i32_w]
            rfl
          refine pure_ (i := 1) (N := some 7) (v := ?_) (a' := ?_) #[true, true, false, false, false, false, false, false, false, false] rfl rfl (any_of HT_.out (by kernel_rfl)) (fun _ _ _ h => h) (Or.inl ⟨by rfl, ?_⟩) ?_ ?_
          rotate_left
          · intro w'
            go_simp
            with_reducible rfl
          rotate_left
          · simp only [Act.put, List.setIfInBounds_toArray, List.set_cons_zero, List.set_cons_succ, i64_w, i32_w]
            rfl
          refine pure_ (i := 5) (N := some 11) (v := ?_) (a' := ?_) #[true, true, false, false, false, true, false, false, false, false] rfl rfl (any_of HT_.out (by kernel_rfl)) (fun _ _ _ h => h) (Or.inl ⟨by rfl, ?_⟩) ?_ ?_
          rotate_left
          · intro w'
            go_simp
            with_reducible rfl
          rotate_left
          · simp only [Act.put, List.setIfInBounds_toArray, List.set_cons_zero, List.set_cons_succ, i64_w, i32_w]
            rfl
          refine take_ (i := 2) (N := some 8) (v := ?_) (a' := ?_) #[true, true, true, false, false, true, false, false, false, false] rfl rfl (take_ofW HT_.out HW_.out (by kernel_rfl)) (fun _ _ _ h => h) (Or.inl ⟨by rfl, ?_⟩) hHeld ?_ ?_
          rotate_left
          · rintro w' ⟨s0, s1, s2⟩
            go_simp
            with_reducible rfl
          rotate_left
          · simp only [Act.put, List.setIfInBounds_toArray, List.set_cons_zero, List.set_cons_succ, i64_w, i32_w]
            rfl
          refine pure_ (i := 3) (N := some 9) (v := ?_) (a' := ?_) #[true, true, true, true, false, true, false, false, false, false] rfl rfl (any_of HT_.out (by kernel_rfl)) (fun _ _ _ h => h) (Or.inl ⟨by rfl, ?_⟩) ?_ ?_
          rotate_left
          · intro w'
            go_simp
            with_reducible rfl
          rotate_left
          · simp only [Act.put, List.setIfInBounds_toArray, List.set_cons_zero, List.set_cons_succ, i64_w, i32_w]
            rfl
          refine pure_ (i := 4) (N := some 10) (v := ?_) (a' := ?_) #[true, true, true, true, true, true, false, false, false, false] rfl rfl (any_of HT_.out (by kernel_rfl)) (fun _ _ _ h => h) (Or.inl ⟨by rfl, ?_⟩) ?_ ?_
          rotate_left
          · intro w'
            go_simp
            with_reducible rfl
          rotate_left
          · simp only [Act.put, List.setIfInBounds_toArray, List.set_cons_zero, List.set_cons_succ, i64_w, i32_w]
            rfl
          refine take_ (i := 6) (N := some 12) (v := ?_) (a' := ?_) #[true, true, true, true, true, true, true, false, false, false] rfl rfl (take_ofW HT_.out HW_.out (by kernel_rfl)) (fun _ _ _ h => h) (Or.inl ⟨by rfl, ?_⟩) hHeld ?_ ?_
          rotate_left
          · rintro w' ⟨s0, s1, s2⟩
            go_simp
            with_reducible rfl
          rotate_left
          · simp only [Act.put, List.setIfInBounds_toArray, List.set_cons_zero, List.set_cons_succ, i64_w, i32_w]
            rfl
          refine one_ (i := 7) (N := some 13) #[true, true, true, true, true, true, true, true, false, false] rfl rfl (one_of HT_.out (by kernel_rfl)) (by decide) (fun K hK => ?_)
          refine goes_ Tryd.func49 (by kernel_rfl) rfl #[.int .i64 a0_2] (by rfl) rfl rfl (by (try simp only [List.map_toArray, List.map_cons, List.map_nil]); first | done | rfl | (simp only [List.length_drop, List.length_take]; rfl)) ?_
          with_reducible refine (eyewitnessref05_Put.calls k a0_2 t444 _ A5.out).mono ?_
          rintro e w10 ⟨rfl, hb⟩
          refine ⟨_, rfl, ?_⟩
          have n0_ := Aside0.mk (blk_below (g := gb443) (o := .cells #[.bool true, .string a0_1, .int .i64 a0_2] 61 (0, 0)) (by (with_reducible repeat (first | refine blk_drewN ?_ _ | refine blk_drew ?_ | refine blk_alloc ?_ _)); exact BK443.out) hb)
          have n1_ := Aside0.mk (below_step (by repeat (first | (with_reducible first | exact HB.out | apply below_alloc | apply pw_below_drewN | apply below_drew1 | refine below_set ?_ GE443.out) | exact HB.out)) hb)
          clear BK443
          clear HB
          have BK443 := n0_
          have HB := n1_
          clear n0_ n1_
          (try clear hb)
          (try clear hb2)
          (try clear hk)
          (try clear hi)
          refine hK.out _ _ ⟨(blk_cell BK443.out 0).trans rfl, (blk_cell BK443.out 1).trans rfl, (blk_cell BK443.out 2).trans rfl⟩ (fun hHeld => ?_)
          clear hK K
          refine norm_ (a' := ?_) ?_ ?_
          rotate_left
          · show Act.put _ (some 13) _ = _
            simp only [Act.put, List.setIfInBounds_toArray, List.set_cons_zero, List.set_cons_succ, i64_w, i32_w]
            rfl
          refine pure_ (i := 8) (N := some 14) (v := ?_) (a' := ?_) #[true, true, true, true, true, true, true, true, true, false] rfl rfl (any_of HT_.out (by kernel_rfl)) (fun _ _ _ h => h) (Or.inl ⟨by rfl, ?_⟩) ?_ ?_
          rotate_left
          · intro w'
            go_simp
            with_reducible rfl
          rotate_left
          · simp only [Act.put, List.setIfInBounds_toArray, List.set_cons_zero, List.set_cons_succ, i64_w, i32_w]
            rfl
          refine pure_ (i := 9) (N := some 2) (v := ?_) (a' := ?_) #[true, true, true, true, true, true, true, true, true, true] rfl rfl (any_of HT_.out (by kernel_rfl)) (fun _ _ _ h => h) (Or.inl ⟨by rfl, ?_⟩) ?_ ?_
          rotate_left
          · intro w'
            go_simp
            with_reducible rfl
          rotate_left
          · simp only [Act.put, List.setIfInBounds_toArray, List.set_cons_zero, List.set_cons_succ, i64_w, i32_w]
            rfl
          refine done_ (done_of HT_.out (by kernel_rfl)) ?_
          try go_wp2
          go_ret
          exact ⟨by first | rfl | (simp [errW_none, errW_some] <;> rfl) | (simp [*, errW_none, errW_some] <;> rfl), by repeat (first | (with_reducible first | exact HB.out | apply below_alloc | apply pw_below_drewN | apply below_drew1 | refine below_set ?_ GE443.out) | exact HB.out)⟩
        · rw [if_neg c6] at H
          exact absurd H (by simp)
      · rw [if_neg c4] at H
        exact absurd H (by simp)
    · rw [if_neg c3] at H
      exact absurd H (by simp)
  · replace c2 := Bool.eq_false_iff.mpr c2
    subst c2
    have H1 : (if 2 + a0_1.size ≤ 9223372036854775807 then (if ((⟨#[114, 58]⟩ : ByteArray) ++ a0_1).size + 1 ≤ 9223372036854775807 then ((eyewitnessref05_Put.f k a0_2).bind fun t445 => (if (((⟨#[114, 58]⟩ : ByteArray) ++ a0_1) ++ (⟨#[61]⟩ : ByteArray)).size + t445.size ≤ 9223372036854775807 then (some ((((⟨#[114, 58]⟩ : ByteArray) ++ a0_1) ++ (⟨#[61]⟩ : ByteArray)) ++ t445)) else (none))) else (none)) else (none)) = some r := by rw [if_neg (show ¬ (false = true) by decide)] at H; exact H
    clear H
    have H := H1
    clear H1
    by_cases c11 : 2 + a0_1.size ≤ 9223372036854775807
    · rw [if_pos c11] at H
      have c11b0 := eq_true c11
      have c11b1 : decide (2 + a0_1.size ≤ 9223372036854775807) = true := decide_eq_true c11
      try have c11b2 : (9223372036854775807 < 2 + a0_1.size) = False := eq_false (Nat.not_lt.2 c11)
      by_cases c12 : ((⟨#[114, 58]⟩ : ByteArray) ++ a0_1).size + 1 ≤ 9223372036854775807
      · rw [if_pos c12] at H
        have c12b0 := eq_true c12
        have c12b1 : decide (((⟨#[114, 58]⟩ : ByteArray) ++ a0_1).size + 1 ≤ 9223372036854775807) = true := decide_eq_true c12
        try have c12b2 : (9223372036854775807 < ((⟨#[114, 58]⟩ : ByteArray) ++ a0_1).size + 1) = False := eq_false (Nat.not_lt.2 c12)
        try (have c12b3 := c12b2; simp only [ByteArray.size_append] at c12b3)
        try (have c12b4 := c12b2; simp only [ByteArray.size_append, (show ∀ (x : UInt8) (l : List UInt8), (⟨(x :: l).toArray⟩ : ByteArray).size = l.length + 1 from fun x l => by simp [ByteArray.size]), List.length_cons, List.length_nil, Nat.zero_add, Nat.reduceAdd] at c12b4)
        replace H := Option.bind_eq_some_iff.mp H
        obtain ⟨t445, A130, H⟩ := H
        replace H : (if (((⟨#[114, 58]⟩ : ByteArray) ++ a0_1) ++ (⟨#[61]⟩ : ByteArray)).size + t445.size ≤ 9223372036854775807 then (some ((((⟨#[114, 58]⟩ : ByteArray) ++ a0_1) ++ (⟨#[61]⟩ : ByteArray)) ++ t445)) else (none)) = some r := H
        have A13 := Aside0.mk A130
        clear A130
        by_cases c14 : (((⟨#[114, 58]⟩ : ByteArray) ++ a0_1) ++ (⟨#[61]⟩ : ByteArray)).size + t445.size ≤ 9223372036854775807
        · rw [if_pos c14] at H
          have c14b0 := eq_true c14
          have c14b1 : decide ((((⟨#[114, 58]⟩ : ByteArray) ++ a0_1) ++ (⟨#[61]⟩ : ByteArray)).size + t445.size ≤ 9223372036854775807) = true := decide_eq_true c14
          try have c14b2 : (9223372036854775807 < (((⟨#[114, 58]⟩ : ByteArray) ++ a0_1) ++ (⟨#[61]⟩ : ByteArray)).size + t445.size) = False := eq_false (Nat.not_lt.2 c14)
          try (have c14b3 := c14b2; simp only [ByteArray.size_append] at c14b3)
          try (have c14b4 := c14b2; simp only [ByteArray.size_append, (show ∀ (x : UInt8) (l : List UInt8), (⟨(x :: l).toArray⟩ : ByteArray).size = l.length + 1 from fun x l => by simp [ByteArray.size]), List.length_cons, List.length_nil, Nat.zero_add, Nat.reduceAdd] at c14b4)
          obtain rfl := Option.some.inj H
          go_enter Tryd.func56, Tryd.ntmps56
          try go_wp2_with (first | ((with_reducible refine gate_dst (N := 1) rfl ?_); refine box_event ?hg (N := 1) ?hd (cs := #[.bool false, .string a0_1, .int .i64 a0_2]) (t := 61) ?hr ?_; (case hd => rfl); (case hg => rfl); (case hr => first | (go_simp; done) | (go_simp; rfl)); intro gb443 hg w15 hbox hb; have n0_ := Aside0.mk (below_step (by repeat (first | (with_reducible first | exact HB.out | apply below_alloc | apply pw_below_drewN | apply below_drew1) | exact HB.out)) hb); have n1_ := Aside0.mk (hbox); have n2_ := Aside0.mk ((by rw [hg]; exact (below_size (by repeat (first | (with_reducible first | exact HB.out | apply below_alloc | apply pw_below_drewN | apply below_drew1) | exact HB.out))) : w.heap.size ≤ gb443)); have n3_ := Aside0.mk ((by rw [hg]; exact (below_size (by repeat (first | (with_reducible first | exact HB.out | apply below_alloc | apply pw_below_drewN | apply below_drew1) | exact HB.out))) : w.heap.size ≤ gb443)); clear HB; have HB := n0_; have BK443 := n1_; have GW443 := n2_; have GE443 := n3_; clear n0_ n1_ n2_ n3_; clear hb hbox hg; have hcz16_0 : w15.cell? ⟨gb443, 0, none⟩ = some (.bool false) := (blk_cell BK443.out 0).trans rfl; have hcz16_1 : w15.cell? ⟨gb443, 1, none⟩ = some (.string a0_1) := (blk_cell BK443.out 1).trans rfl; have hcz16_2 : w15.cell? ⟨gb443, 2, none⟩ = some (.int .i64 a0_2) := (blk_cell BK443.out 2).trans rfl; have hfz16_0 := blk_frozen BK443.out 0; have hfz16_1 := blk_frozen BK443.out 1; have hfz16_2 := blk_frozen BK443.out 2))
          have n0_ := Aside0.mk (blk_drew BK443.out)
          have n1_ := Aside0.mk (below_drew1 HB.out)
          clear BK443
          clear HB
          have BK443 := n0_
          have HB := n1_
          clear n0_ n1_
          refine start_ (n := 10) (S := fun w' => w'.cell? ⟨gb443, 0, none⟩ = some (.bool false) ∧ w'.cell? ⟨gb443, 1, none⟩ = some (.string a0_1) ∧ w'.cell? ⟨gb443, 2, none⟩ = some (.int .i64 a0_2)) (ds := []) #[false, false, false, false, false, false, false, false, false, false] (by kernel_rfl) rfl rfl ⟨(blk_cell BK443.out 0).trans rfl, (blk_cell BK443.out 1).trans rfl, (blk_cell BK443.out 2).trans rfl⟩ (fun hHeld => ?_); refine with_tabW eyewitnessref08_Op.tab4 eyewitnessref08_Op.bits4 (fun HT_ HW_ => ?_)
          generalize w15.drew = w17 at BK443 HB hHeld ⊢
          refine pure_ (i := 0) (N := some 6) (v := ?_) (a' := ?_) #[true, false, false, false, false, false, false, false, false, false] rfl rfl (any_of HT_.out (by kernel_rfl)) (fun _ _ _ h => h) (Or.inl ⟨by rfl, ?_⟩) ?_ ?_
          rotate_left
          · intro w'
            go_simp
            with_reducible rfl
          rotate_left
          · simp only [Act.put, List.setIfInBounds_toArray, List.set_cons_zero, List.set_cons_succ, i64_w, i32_w]
            rfl
          refine pure_ (i := 1) (N := some 7) (v := ?_) (a' := ?_) #[true, true, false, false, false, false, false, false, false, false] rfl rfl (any_of HT_.out (by kernel_rfl)) (fun _ _ _ h => h) (Or.inl ⟨by rfl, ?_⟩) ?_ ?_
          rotate_left
          · intro w'
            go_simp
            with_reducible rfl
          rotate_left
          · simp only [Act.put, List.setIfInBounds_toArray, List.set_cons_zero, List.set_cons_succ, i64_w, i32_w]
            rfl
          refine pure_ (i := 5) (N := some 11) (v := ?_) (a' := ?_) #[true, true, false, false, false, true, false, false, false, false] rfl rfl (any_of HT_.out (by kernel_rfl)) (fun _ _ _ h => h) (Or.inl ⟨by rfl, ?_⟩) ?_ ?_
          rotate_left
          · intro w'
            go_simp
            with_reducible rfl
          rotate_left
          · simp only [Act.put, List.setIfInBounds_toArray, List.set_cons_zero, List.set_cons_succ, i64_w, i32_w]
            rfl
          refine take_ (i := 2) (N := some 8) (v := ?_) (a' := ?_) #[true, true, true, false, false, true, false, false, false, false] rfl rfl (take_ofW HT_.out HW_.out (by kernel_rfl)) (fun _ _ _ h => h) (Or.inl ⟨by rfl, ?_⟩) hHeld ?_ ?_
          rotate_left
          · rintro w' ⟨s0, s1, s2⟩
            go_simp
            with_reducible rfl
          rotate_left
          · simp only [Act.put, List.setIfInBounds_toArray, List.set_cons_zero, List.set_cons_succ, i64_w, i32_w]
            rfl
          refine pure_ (i := 3) (N := some 9) (v := ?_) (a' := ?_) #[true, true, true, true, false, true, false, false, false, false] rfl rfl (any_of HT_.out (by kernel_rfl)) (fun _ _ _ h => h) (Or.inl ⟨by rfl, ?_⟩) ?_ ?_
          rotate_left
          · intro w'
            go_simp
            with_reducible rfl
          rotate_left
          · simp only [Act.put, List.setIfInBounds_toArray, List.set_cons_zero, List.set_cons_succ, i64_w, i32_w]
            rfl
          refine pure_ (i := 4) (N := some 10) (v := ?_) (a' := ?_) #[true, true, true, true, true, true, false, false, false, false] rfl rfl (any_of HT_.out (by kernel_rfl)) (fun _ _ _ h => h) (Or.inl ⟨by rfl, ?_⟩) ?_ ?_
          rotate_left
          · intro w'
            go_simp
            with_reducible rfl
          rotate_left
          · simp only [Act.put, List.setIfInBounds_toArray, List.set_cons_zero, List.set_cons_succ, i64_w, i32_w]
            rfl
          refine take_ (i := 6) (N := some 12) (v := ?_) (a' := ?_) #[true, true, true, true, true, true, true, false, false, false] rfl rfl (take_ofW HT_.out HW_.out (by kernel_rfl)) (fun _ _ _ h => h) (Or.inl ⟨by rfl, ?_⟩) hHeld ?_ ?_
          rotate_left
          · rintro w' ⟨s0, s1, s2⟩
            go_simp
            with_reducible rfl
          rotate_left
          · simp only [Act.put, List.setIfInBounds_toArray, List.set_cons_zero, List.set_cons_succ, i64_w, i32_w]
            rfl
          refine one_ (i := 7) (N := some 13) #[true, true, true, true, true, true, true, true, false, false] rfl rfl (one_of HT_.out (by kernel_rfl)) (by decide) (fun K hK => ?_)
          refine goes_ Tryd.func49 (by kernel_rfl) rfl #[.int .i64 a0_2] (by rfl) rfl rfl (by (try simp only [List.map_toArray, List.map_cons, List.map_nil]); first | done | rfl | (simp only [List.length_drop, List.length_take]; rfl)) ?_
          with_reducible refine (eyewitnessref05_Put.calls k a0_2 t445 _ A13.out).mono ?_
          rintro e w18 ⟨rfl, hb⟩
          refine ⟨_, rfl, ?_⟩
          have n0_ := Aside0.mk (blk_below (g := gb443) (o := .cells #[.bool false, .string a0_1, .int .i64 a0_2] 61 (0, 0)) (by (with_reducible repeat (first | refine blk_drewN ?_ _ | refine blk_drew ?_ | refine blk_alloc ?_ _)); exact BK443.out) hb)
          have n1_ := Aside0.mk (below_step (by repeat (first | (with_reducible first | exact HB.out | apply below_alloc | apply pw_below_drewN | apply below_drew1 | refine below_set ?_ GE443.out) | exact HB.out)) hb)
          clear BK443
          clear HB
          have BK443 := n0_
          have HB := n1_
          clear n0_ n1_
          (try clear hb)
          (try clear hb2)
          (try clear hk)
          (try clear hi)
          refine hK.out _ _ ⟨(blk_cell BK443.out 0).trans rfl, (blk_cell BK443.out 1).trans rfl, (blk_cell BK443.out 2).trans rfl⟩ (fun hHeld => ?_)
          clear hK K
          refine norm_ (a' := ?_) ?_ ?_
          rotate_left
          · show Act.put _ (some 13) _ = _
            simp only [Act.put, List.setIfInBounds_toArray, List.set_cons_zero, List.set_cons_succ, i64_w, i32_w]
            rfl
          refine pure_ (i := 8) (N := some 14) (v := ?_) (a' := ?_) #[true, true, true, true, true, true, true, true, true, false] rfl rfl (any_of HT_.out (by kernel_rfl)) (fun _ _ _ h => h) (Or.inl ⟨by rfl, ?_⟩) ?_ ?_
          rotate_left
          · intro w'
            go_simp
            with_reducible rfl
          rotate_left
          · simp only [Act.put, List.setIfInBounds_toArray, List.set_cons_zero, List.set_cons_succ, i64_w, i32_w]
            rfl
          refine pure_ (i := 9) (N := some 2) (v := ?_) (a' := ?_) #[true, true, true, true, true, true, true, true, true, true] rfl rfl (any_of HT_.out (by kernel_rfl)) (fun _ _ _ h => h) (Or.inl ⟨by rfl, ?_⟩) ?_ ?_
          rotate_left
          · intro w'
            go_simp
            with_reducible rfl
          rotate_left
          · simp only [Act.put, List.setIfInBounds_toArray, List.set_cons_zero, List.set_cons_succ, i64_w, i32_w]
            rfl
          refine done_ (done_of HT_.out (by kernel_rfl)) ?_
          try go_wp2
          go_ret
          exact ⟨by first | rfl | (simp [errW_none, errW_some] <;> rfl) | (simp [*, errW_none, errW_some] <;> rfl), by repeat (first | (with_reducible first | exact HB.out | apply below_alloc | apply pw_below_drewN | apply below_drew1 | refine below_set ?_ GE443.out) | exact HB.out)⟩
        · rw [if_neg c14] at H
          exact absurd H (by simp)
      · rw [if_neg c12] at H
        exact absurd H (by simp)
    · rw [if_neg c11] at H
      exact absurd H (by simp)

/-! ### eyewitnessref08_Text: function 54 -/
mutual
def eyewitnessref08_Text.l0 : Nat → List (List (S61)) → ByteArray → Int → Option (ByteArray × Int)
  | 0, _, _, _ => none
  | k + 1, x0, x4, x5 => if x5 < (x0.length : Int) then (eyewitnessref08_Text.l1 k x0 x4 x5 0) else (some (x4, 0))
def eyewitnessref08_Text.l1 : Nat → List (List (S61)) → ByteArray → Int → Int → Option (ByteArray × Int)
  | 0, _, _, _, _ => none
  | k + 1, x0, x4, x5, x6 => if 0 ≤ x5 then (if x5 < (x0.length : Int) then (if x6 < ((rd_L4 x0 x5).length : Int) then (if x6 > 0 then (if x4.size + 1 ≤ 9223372036854775807 then (if 0 ≤ x6 then ((eyewitnessref08_Op.f k ((rd_T61 (rd_L4 x0 x5) x6).f0) ((rd_T61 (rd_L4 x0 x5) x6).f1) ((rd_T61 (rd_L4 x0 x5) x6).f2)).bind fun t450 => (if (x4 ++ (⟨#[32]⟩ : ByteArray)).size + t450.size ≤ 9223372036854775807 then (eyewitnessref08_Text.l1 k x0 ((x4 ++ (⟨#[32]⟩ : ByteArray)) ++ t450) x5 (wrap64 (x6 + 1))) else (none))) else (none)) else (none)) else (if 0 ≤ x6 then ((eyewitnessref08_Op.f k ((rd_T61 (rd_L4 x0 x5) x6).f0) ((rd_T61 (rd_L4 x0 x5) x6).f1) ((rd_T61 (rd_L4 x0 x5) x6).f2)).bind fun t453 => (if x4.size + t453.size ≤ 9223372036854775807 then (eyewitnessref08_Text.l1 k x0 (x4 ++ t453) x5 (wrap64 (x6 + 1))) else (none))) else (none))) else (if x4.size + 1 ≤ 9223372036854775807 then (eyewitnessref08_Text.l0 k x0 (x4 ++ (⟨#[10]⟩ : ByteArray)) (wrap64 (x5 + 1))) else (none))) else (none)) else (none)
end
def eyewitnessref08_Text.f (k : Nat) (l0 : List (List (S61))) : Option (ByteArray × Int) := (eyewitnessref06_Right.f k l0).bind fun t446 => (if t446 = true then (eyewitnessref08_Text.l0 k l0 (⟨#[]⟩ : ByteArray) 0) else (some ((⟨#[]⟩ : ByteArray), 1)))
theorem eyewitnessref08_Text.mono_l : ∀ k, (∀ y0 y1 y2, LeO (eyewitnessref08_Text.l0 k y0 y1 y2) (eyewitnessref08_Text.l0 (k + 1) y0 y1 y2)) ∧ (∀ y0 y1 y2 y3, LeO (eyewitnessref08_Text.l1 k y0 y1 y2 y3) (eyewitnessref08_Text.l1 (k + 1) y0 y1 y2 y3))
  | 0 => ⟨fun _ _ _ r h => by simp [eyewitnessref08_Text.l0] at h, fun _ _ _ _ r h => by simp [eyewitnessref08_Text.l1] at h⟩
  | k + 1 => by
    obtain ⟨ih0, ih1⟩ := eyewitnessref08_Text.mono_l k
    refine ⟨?_, ?_⟩
    · intro y0 y1 y2
      unfold eyewitnessref08_Text.l0
      repeat' first
      | (with_reducible exact ih0 _ _ _)
      | (with_reducible exact ih1 _ _ _ _)
      | (with_reducible exact eyewitnessref06_Right.mono _ _)
      | (with_reducible exact eyewitnessref08_Op.mono _ _ _ _)
      | (with_reducible exact LeO.refl _)
      | (with_reducible exact LeO.none _)
      | (with_reducible refine LeO.ite ?_ ?_)
      | (with_reducible refine LeO.bind ?_ (fun _ => ?_))
      | exact ih0 _ _ _
      | exact ih1 _ _ _ _
      | exact eyewitnessref06_Right.mono _ _
      | exact eyewitnessref08_Op.mono _ _ _ _
      | exact LeO.none _
      | refine LeO.ite ?_ ?_
      | refine LeO.bind ?_ (fun _ => ?_)
    · intro y0 y1 y2 y3
      unfold eyewitnessref08_Text.l1
      repeat' first
      | (with_reducible exact ih0 _ _ _)
      | (with_reducible exact ih1 _ _ _ _)
      | (with_reducible exact eyewitnessref06_Right.mono _ _)
      | (with_reducible exact eyewitnessref08_Op.mono _ _ _ _)
      | (with_reducible exact LeO.refl _)
      | (with_reducible exact LeO.none _)
      | (with_reducible refine LeO.ite ?_ ?_)
      | (with_reducible refine LeO.bind ?_ (fun _ => ?_))
      | exact ih0 _ _ _
      | exact ih1 _ _ _ _
      | exact eyewitnessref06_Right.mono _ _
      | exact eyewitnessref08_Op.mono _ _ _ _
      | exact LeO.none _
      | refine LeO.ite ?_ ?_
      | refine LeO.bind ?_ (fun _ => ?_)
theorem eyewitnessref08_Text.mono : ∀ a0 k, LeO (eyewitnessref08_Text.f k a0) (eyewitnessref08_Text.f (k + 1) a0) := by
  intro a0 k
  obtain ⟨ih0, ih1⟩ := eyewitnessref08_Text.mono_l k
  unfold eyewitnessref08_Text.f
  repeat' first
      | (with_reducible exact ih0 _ _ _)
      | (with_reducible exact ih1 _ _ _ _)
      | (with_reducible exact eyewitnessref06_Right.mono _ _)
      | (with_reducible exact eyewitnessref08_Op.mono _ _ _ _)
      | (with_reducible exact LeO.refl _)
      | (with_reducible exact LeO.none _)
      | (with_reducible refine LeO.ite ?_ ?_)
      | (with_reducible refine LeO.bind ?_ (fun _ => ?_))
      | exact ih0 _ _ _
      | exact ih1 _ _ _ _
      | exact eyewitnessref06_Right.mono _ _
      | exact eyewitnessref08_Op.mono _ _ _ _
      | exact LeO.none _
      | refine LeO.ite ?_ ?_
      | refine LeO.bind ?_ (fun _ => ?_)
set_option maxHeartbeats 8000000 in
set_option maxRecDepth 100000 in
theorem eyewitnessref08_Text.calls (k : Nat) (A0 : Option Addr) (c0 : Nat) (l0 : List (List (S61))) (r1 : ByteArray) (r2 : Int) (w : World) (hr0 : Kd.C (Kd.slice 61 k61) w A0 l0.length l0) (hc0 : l0.length ≤ c0) (h : eyewitnessref08_Text.f k l0 = some (r1, r2)) :
    Calls Tryd.prog 54 #[.slice A0 l0.length c0] w fun e w' => e = .returned (.tuple #[.string r1, .int .i64 r2]) ∧ Below w.heap.size w w' := by
  have hu61 := Tryd.underlying61
  have HR0 := Aside0.mk hr0
  have HC0 := Aside0.mk hc0
  clear hr0 hc0
  have HB := Aside0.mk (Below.refl w.heap.size w)
  have H : ((eyewitnessref06_Right.f k l0).bind fun t446 => (if t446 = true then (eyewitnessref08_Text.l0 k l0 (⟨#[]⟩ : ByteArray) 0) else (some ((⟨#[]⟩ : ByteArray), 1)))) = some (r1, r2) := h
  clear h
  replace H := Option.bind_eq_some_iff.mp H
  obtain ⟨t446, A20, H⟩ := H
  replace H : (if t446 = true then (eyewitnessref08_Text.l0 k l0 (⟨#[]⟩ : ByteArray) 0) else (some ((⟨#[]⟩ : ByteArray), 1))) = some (r1, r2) := H
  have A2 := Aside0.mk A20
  clear A20
  by_cases c3 : t446 = true
  · subst c3
    have H1 : (eyewitnessref08_Text.l0 k l0 (⟨#[]⟩ : ByteArray) 0) = some (r1, r2) := by rw [if_pos rfl] at H; exact H
    clear H
    have H := H1
    clear H1
    have H' := Aside0.mk H
    clear H
    go_enter Tryd.func54, Tryd.ntmps54
    go_wp2_with (first | ((with_reducible refine gate_callee (f := 36) rfl ?_); refine goesL_ (some 8) rfl rfl Tryd.func36 (by kernel_rfl) rfl #[.slice A0 l0.length c0] rfl (by (try simp only [List.map_toArray, List.map_cons, List.map_nil]); first | done | rfl | (simp only [List.length_drop, List.length_take]; rfl)) ?_; (with_reducible refine (eyewitnessref06_Right.calls k _ _ l0 true _ ?side1 ?side2 A2.out).mono ?_); (case side1 => repeat (first | exact HR0.out | (with_reducible refine Kd.C_alloc ?_ _) | (with_reducible refine Kd.C_drewN ?_ _) | (with_reducible refine Kd.C_drew ?_))); (case side2 => exact HC0.out); rintro e w4 ⟨rfl, hb⟩; refine ⟨_, rfl, ?_⟩; have n0_ := Aside0.mk (below_step (by repeat (first | (with_reducible first | exact HB.out | apply below_alloc | apply pw_below_drewN | apply below_drew1) | exact HB.out)) hb); clear HB; have HB := n0_; clear n0_; (try clear hb); (try clear hb2); (try clear hk); (try clear hi)))
    go_loopg [4, 5] k (fun kq v4 v5 w' => ∃ (x4_1 : ByteArray) (x5_1 : Int), v4 = .string x4_1 ∧ v5 = .int .i64 x5_1 ∧ Aside0 (eyewitnessref08_Text.l0 kq l0 x4_1 x5_1 = some (r1, r2)) ∧ Aside0 (kq ≤ k) ∧ Aside0 (Below w.heap.size w w'))
    case atStart => exact ⟨((⟨#[]⟩ : ByteArray)), (0), (by first | rfl | (simp; done) | (simp [*]; done)), (by first | rfl | (simp; done) | (simp [*]; done)), H', ⟨Nat.le_refl _⟩, ⟨by repeat (first | (with_reducible first | exact HB.out | apply below_alloc | apply pw_below_drewN | apply below_drew1) | exact HB.out)⟩⟩
    case round =>
      clear H'
      try clear p2
      try clear c3
      obtain ⟨x4_1, x5_1, rfl, rfl, HA, HK1, HB⟩ := hrel
      cases gk with
      | zero => exact absurd HA.out (by simp [eyewitnessref08_Text.l0])
      | succ k1 =>
        have H := HA.out
        clear HA
        simp only [eyewitnessref08_Text.l0] at H
        by_cases c5 : x5_1 < (l0.length : Int)
        · rw [if_pos c5] at H
          have c5b0 : decide (x5_1 < (l0.length : Int)) = true := decide_eq_true c5
          clear c5
          have H' := Aside0.mk H
          clear H
          go_wp2
          go_loopg [4, 6] k1 (fun kq v4 v6 w' => ∃ (x4_2 : ByteArray) (x6_2 : Int), v4 = .string x4_2 ∧ v6 = .int .i64 x6_2 ∧ Aside0 (eyewitnessref08_Text.l1 kq l0 x4_2 x5_1 x6_2 = some (r1, r2)) ∧ Aside0 (kq ≤ k1) ∧ Aside0 (Below w.heap.size w w'))
          case atStart => exact ⟨(x4_1), (0), (by first | rfl | (simp; done) | (simp [*]; done)), (by first | rfl | (simp; done) | (simp [*]; done)), H', ⟨Nat.le_refl _⟩, ⟨by repeat (first | (with_reducible first | exact HB.out | apply below_alloc | apply pw_below_drewN | apply below_drew1) | exact HB.out)⟩⟩
          case round =>
            clear H'
            try clear p2
            try clear c3
            try clear c5
            try clear c5b0
            try clear p2
            obtain ⟨x4_2, x6_2, rfl, rfl, HA, HK2, HB⟩ := hrel
            cases gk with
            | zero => exact absurd HA.out (by simp [eyewitnessref08_Text.l1])
            | succ k2 =>
              have H := HA.out
              clear HA
              simp only [eyewitnessref08_Text.l1] at H
              by_cases c6 : 0 ≤ x5_1
              · rw [if_pos c6] at H
                have c6b0 : decide (0 ≤ x5_1) = true := decide_eq_true c6
                clear c6
                by_cases c7 : x5_1 < (l0.length : Int)
                · rw [if_pos c7] at H
                  have c7b0 : decide (x5_1 < (l0.length : Int)) = true := decide_eq_true c7
                  clear c7
                  by_cases c8 : x6_2 < ((rd_L4 l0 x5_1).length : Int)
                  · rw [if_pos c8] at H
                    have c8b0 : decide (x6_2 < ((rd_L4 l0 x5_1).length : Int)) = true := decide_eq_true c8
                    clear c8
                    by_cases c9 : x6_2 > 0
                    · rw [if_pos c9] at H
                      have c9b0 : decide (0 < x6_2) = true := decide_eq_true c9
                      clear c9
                      by_cases c10 : x4_2.size + 1 ≤ 9223372036854775807
                      · rw [if_pos c10] at H
                        have c10b0 := eq_true c10
                        have c10b1 : decide (x4_2.size + 1 ≤ 9223372036854775807) = true := decide_eq_true c10
                        try have c10b2 : (9223372036854775807 < x4_2.size + 1) = False := eq_false (Nat.not_lt.2 c10)
                        by_cases c11 : 0 ≤ x6_2
                        · rw [if_pos c11] at H
                          have c11b0 : decide (0 ≤ x6_2) = true := decide_eq_true c11
                          clear c11
                          replace H := Option.bind_eq_some_iff.mp H
                          obtain ⟨t450, A120, H⟩ := H
                          replace H : (if (x4_2 ++ (⟨#[32]⟩ : ByteArray)).size + t450.size ≤ 9223372036854775807 then (eyewitnessref08_Text.l1 k2 l0 ((x4_2 ++ (⟨#[32]⟩ : ByteArray)) ++ t450) x5_1 (wrap64 (x6_2 + 1))) else (none)) = some (r1, r2) := H
                          have A12 := Aside0.mk A120
                          clear A120
                          by_cases c13 : (x4_2 ++ (⟨#[32]⟩ : ByteArray)).size + t450.size ≤ 9223372036854775807
                          · rw [if_pos c13] at H
                            have c13b0 := eq_true c13
                            have c13b1 : decide ((x4_2 ++ (⟨#[32]⟩ : ByteArray)).size + t450.size ≤ 9223372036854775807) = true := decide_eq_true c13
                            try have c13b2 : (9223372036854775807 < (x4_2 ++ (⟨#[32]⟩ : ByteArray)).size + t450.size) = False := eq_false (Nat.not_lt.2 c13)
                            try (have c13b3 := c13b2; simp only [ByteArray.size_append] at c13b3)
                            try (have c13b4 := c13b2; simp only [ByteArray.size_append, (show ∀ (x : UInt8) (l : List UInt8), (⟨(x :: l).toArray⟩ : ByteArray).size = l.length + 1 from fun x l => by simp [ByteArray.size]), List.length_cons, List.length_nil, Nat.zero_add, Nat.reduceAdd] at c13b4)
                            have H' := Aside0.mk H
                            clear H
                            have p447 : 0 ≤ (x5_1 : Int) := of_decide_eq_true (by first | (with_reducible assumption) | assumption)
                            have q447 : x5_1 < (l0.length : Int) := of_decide_eq_true (by first | (with_reducible assumption) | assumption)
                            obtain ⟨ad447, A447_0, c447_0, e447, hx447_0, hl447_0, hi447_0⟩ := at_L4 HR0.out x5_1 p447 q447
                            cases e447
                            replace hx447_0 := (HB.out.cell (World.block_lt_of_cell? w _ hx447_0)).trans hx447_0
                            have HR447_0 := Aside0.mk hi447_0
                            have HC447_0 := Aside0.mk hl447_0
                            clear hi447_0 hl447_0
                            replace p447 := eq_true p447
                            replace q447 := eq_true q447
                            have p448 : 0 ≤ (x5_1 : Int) := of_decide_eq_true (by first | (with_reducible assumption) | assumption)
                            have q448 : x5_1 < (l0.length : Int) := of_decide_eq_true (by first | (with_reducible assumption) | assumption)
                            obtain ⟨ad448, A448_0, c448_0, e448, hx448_0, hl448_0, hi448_0⟩ := at_L4 HR0.out x5_1 p448 q448
                            obtain rfl : ad447 = ad448 := (by injection e448)
                            replace hx448_0 := (HB.out.cell (World.block_lt_of_cell? w _ hx448_0)).trans hx448_0
                            have HR448_0 := Aside0.mk hi448_0
                            have HC448_0 := Aside0.mk hl448_0
                            clear hi448_0 hl448_0
                            replace p448 := eq_true p448
                            replace q448 := eq_true q448
                            have ea_ := Option.some.inj (hx447_0.symm.trans hx448_0)
                            injection ea_ with ea_ en_ ec_
                            subst ea_
                            subst ec_
                            clear en_
                            have p449 : 0 ≤ (x6_2 : Int) := of_decide_eq_true (by first | (with_reducible assumption) | assumption)
                            have q449 : x6_2 < ((rd_L4 l0 x5_1).length : Int) := of_decide_eq_true (by first | (with_reducible assumption) | assumption)
                            obtain ⟨ad449, e449, hx449_0, hx449_1, hx449_2⟩ := at_T61 HR448_0.out x6_2 p449 q449
                            cases e449
                            replace hx449_0 := (HB.out.cell (World.block_lt_of_cell? w _ hx449_0)).trans hx449_0
                            replace hx449_1 := (HB.out.cell (World.block_lt_of_cell? w _ hx449_1)).trans hx449_1
                            replace hx449_2 := (HB.out.cell (World.block_lt_of_cell? w _ hx449_2)).trans hx449_2
                            replace p449 := eq_true p449
                            replace q449 := eq_true q449
                            go_wp2_with (first | ((with_reducible refine gate_callee (f := 56) rfl ?_); refine goesL_ (some 37) rfl rfl Tryd.func56 (by kernel_rfl) rfl #[.agg #[.bool ((rd_T61 (rd_L4 l0 x5_1) x6_2).f0), .string ((rd_T61 (rd_L4 l0 x5_1) x6_2).f1), .int .i64 ((rd_T61 (rd_L4 l0 x5_1) x6_2).f2)]] rfl (by (try simp only [List.map_toArray, List.map_cons, List.map_nil]); first | done | rfl | (simp only [List.length_drop, List.length_take]; rfl)) ?_; (with_reducible refine (eyewitnessref08_Op.calls k2 ((rd_T61 (rd_L4 l0 x5_1) x6_2).f0) ((rd_T61 (rd_L4 l0 x5_1) x6_2).f1) ((rd_T61 (rd_L4 l0 x5_1) x6_2).f2) t450 _ A12.out).mono ?_); rintro e w14 ⟨rfl, hb⟩; refine ⟨_, rfl, ?_⟩; have n0_ := Aside0.mk (below_step (by repeat (first | (with_reducible first | exact HB.out | apply below_alloc | apply pw_below_drewN | apply below_drew1) | exact HB.out)) hb); clear HB; have HB := n0_; clear n0_; (try clear hb); (try clear hb2); (try clear hk); (try clear hi)))
                            go_roundg k2
                            case measure => have := HK1.out; have := HK2.out; omega
                            case rel => exact ⟨((x4_2 ++ (⟨#[32]⟩ : ByteArray)) ++ t450), (wrap64 (x6_2 + 1)), (by first | rfl | (simp; done) | (simp [*]; done)), (by first | rfl | (simp; done) | (simp [*]; done)), H', ⟨by have := HK1.out; have := HK2.out; omega⟩, ⟨by repeat (first | (with_reducible first | exact HB.out | apply below_alloc | apply pw_below_drewN | apply below_drew1) | exact HB.out)⟩⟩
                          · rw [if_neg c13] at H
                            exact absurd H (by simp)
                        · rw [if_neg c11] at H
                          exact absurd H (by simp)
                      · rw [if_neg c10] at H
                        exact absurd H (by simp)
                    · rw [if_neg c9] at H
                      have c9b0 : decide (0 < x6_2) = false := decide_eq_false c9
                      clear c9
                      by_cases c15 : 0 ≤ x6_2
                      · rw [if_pos c15] at H
                        have c15b0 : decide (0 ≤ x6_2) = true := decide_eq_true c15
                        clear c15
                        replace H := Option.bind_eq_some_iff.mp H
                        obtain ⟨t453, A160, H⟩ := H
                        replace H : (if x4_2.size + t453.size ≤ 9223372036854775807 then (eyewitnessref08_Text.l1 k2 l0 (x4_2 ++ t453) x5_1 (wrap64 (x6_2 + 1))) else (none)) = some (r1, r2) := H
                        have A16 := Aside0.mk A160
                        clear A160
                        by_cases c17 : x4_2.size + t453.size ≤ 9223372036854775807
                        · rw [if_pos c17] at H
                          have c17b0 := eq_true c17
                          have c17b1 : decide (x4_2.size + t453.size ≤ 9223372036854775807) = true := decide_eq_true c17
                          try have c17b2 : (9223372036854775807 < x4_2.size + t453.size) = False := eq_false (Nat.not_lt.2 c17)
                          have H' := Aside0.mk H
                          clear H
                          have p447 : 0 ≤ (x5_1 : Int) := of_decide_eq_true (by first | (with_reducible assumption) | assumption)
                          have q447 : x5_1 < (l0.length : Int) := of_decide_eq_true (by first | (with_reducible assumption) | assumption)
                          obtain ⟨ad447, A447_0, c447_0, e447, hx447_0, hl447_0, hi447_0⟩ := at_L4 HR0.out x5_1 p447 q447
                          cases e447
                          replace hx447_0 := (HB.out.cell (World.block_lt_of_cell? w _ hx447_0)).trans hx447_0
                          have HR447_0 := Aside0.mk hi447_0
                          have HC447_0 := Aside0.mk hl447_0
                          clear hi447_0 hl447_0
                          replace p447 := eq_true p447
                          replace q447 := eq_true q447
                          have p451 : 0 ≤ (x5_1 : Int) := of_decide_eq_true (by first | (with_reducible assumption) | assumption)
                          have q451 : x5_1 < (l0.length : Int) := of_decide_eq_true (by first | (with_reducible assumption) | assumption)
                          obtain ⟨ad451, A451_0, c451_0, e451, hx451_0, hl451_0, hi451_0⟩ := at_L4 HR0.out x5_1 p451 q451
                          obtain rfl : ad447 = ad451 := (by injection e451)
                          replace hx451_0 := (HB.out.cell (World.block_lt_of_cell? w _ hx451_0)).trans hx451_0
                          have HR451_0 := Aside0.mk hi451_0
                          have HC451_0 := Aside0.mk hl451_0
                          clear hi451_0 hl451_0
                          replace p451 := eq_true p451
                          replace q451 := eq_true q451
                          have ea_ := Option.some.inj (hx447_0.symm.trans hx451_0)
                          injection ea_ with ea_ en_ ec_
                          subst ea_
                          subst ec_
                          clear en_
                          have p452 : 0 ≤ (x6_2 : Int) := of_decide_eq_true (by first | (with_reducible assumption) | assumption)
                          have q452 : x6_2 < ((rd_L4 l0 x5_1).length : Int) := of_decide_eq_true (by first | (with_reducible assumption) | assumption)
                          obtain ⟨ad452, e452, hx452_0, hx452_1, hx452_2⟩ := at_T61 HR451_0.out x6_2 p452 q452
                          cases e452
                          replace hx452_0 := (HB.out.cell (World.block_lt_of_cell? w _ hx452_0)).trans hx452_0
                          replace hx452_1 := (HB.out.cell (World.block_lt_of_cell? w _ hx452_1)).trans hx452_1
                          replace hx452_2 := (HB.out.cell (World.block_lt_of_cell? w _ hx452_2)).trans hx452_2
                          replace p452 := eq_true p452
                          replace q452 := eq_true q452
                          go_wp2_with (first | ((with_reducible refine gate_callee (f := 56) rfl ?_); refine goesL_ (some 37) rfl rfl Tryd.func56 (by kernel_rfl) rfl #[.agg #[.bool ((rd_T61 (rd_L4 l0 x5_1) x6_2).f0), .string ((rd_T61 (rd_L4 l0 x5_1) x6_2).f1), .int .i64 ((rd_T61 (rd_L4 l0 x5_1) x6_2).f2)]] rfl (by (try simp only [List.map_toArray, List.map_cons, List.map_nil]); first | done | rfl | (simp only [List.length_drop, List.length_take]; rfl)) ?_; (with_reducible refine (eyewitnessref08_Op.calls k2 ((rd_T61 (rd_L4 l0 x5_1) x6_2).f0) ((rd_T61 (rd_L4 l0 x5_1) x6_2).f1) ((rd_T61 (rd_L4 l0 x5_1) x6_2).f2) t453 _ A16.out).mono ?_); rintro e w18 ⟨rfl, hb⟩; refine ⟨_, rfl, ?_⟩; have n0_ := Aside0.mk (below_step (by repeat (first | (with_reducible first | exact HB.out | apply below_alloc | apply pw_below_drewN | apply below_drew1) | exact HB.out)) hb); clear HB; have HB := n0_; clear n0_; (try clear hb); (try clear hb2); (try clear hk); (try clear hi)))
                          go_roundg k2
                          case measure => have := HK1.out; have := HK2.out; omega
                          case rel => exact ⟨(x4_2 ++ t453), (wrap64 (x6_2 + 1)), (by first | rfl | (simp; done) | (simp [*]; done)), (by first | rfl | (simp; done) | (simp [*]; done)), H', ⟨by have := HK1.out; have := HK2.out; omega⟩, ⟨by repeat (first | (with_reducible first | exact HB.out | apply below_alloc | apply pw_below_drewN | apply below_drew1) | exact HB.out)⟩⟩
                        · rw [if_neg c17] at H
                          exact absurd H (by simp)
                      · rw [if_neg c15] at H
                        exact absurd H (by simp)
                  · rw [if_neg c8] at H
                    have c8b0 : decide (x6_2 < ((rd_L4 l0 x5_1).length : Int)) = false := decide_eq_false c8
                    clear c8
                    by_cases c19 : x4_2.size + 1 ≤ 9223372036854775807
                    · rw [if_pos c19] at H
                      have c19b0 := eq_true c19
                      have c19b1 : decide (x4_2.size + 1 ≤ 9223372036854775807) = true := decide_eq_true c19
                      try have c19b2 : (9223372036854775807 < x4_2.size + 1) = False := eq_false (Nat.not_lt.2 c19)
                      have H' := Aside0.mk H
                      clear H
                      have p447 : 0 ≤ (x5_1 : Int) := of_decide_eq_true (by first | (with_reducible assumption) | assumption)
                      have q447 : x5_1 < (l0.length : Int) := of_decide_eq_true (by first | (with_reducible assumption) | assumption)
                      obtain ⟨ad447, A447_0, c447_0, e447, hx447_0, hl447_0, hi447_0⟩ := at_L4 HR0.out x5_1 p447 q447
                      cases e447
                      replace hx447_0 := (HB.out.cell (World.block_lt_of_cell? w _ hx447_0)).trans hx447_0
                      have HR447_0 := Aside0.mk hi447_0
                      have HC447_0 := Aside0.mk hl447_0
                      clear hi447_0 hl447_0
                      replace p447 := eq_true p447
                      replace q447 := eq_true q447
                      go_wp2
                      go_roundg k2
                      case measure => have := HK1.out; have := HK2.out; omega
                      case rel => exact ⟨(x4_2 ++ (⟨#[10]⟩ : ByteArray)), (wrap64 (x5_1 + 1)), (by first | rfl | (simp; done) | (simp [*]; done)), (by first | rfl | (simp; done) | (simp [*]; done)), H', ⟨by have := HK1.out; have := HK2.out; omega⟩, ⟨by repeat (first | (with_reducible first | exact HB.out | apply below_alloc | apply pw_below_drewN | apply below_drew1) | exact HB.out)⟩⟩
                    · rw [if_neg c19] at H
                      exact absurd H (by simp)
                · rw [if_neg c7] at H
                  exact absurd H (by simp)
              · rw [if_neg c6] at H
                exact absurd H (by simp)
        · rw [if_neg c5] at H
          have c5b0 : decide (x5_1 < (l0.length : Int)) = false := decide_eq_false c5
          clear c5
          simp only [Option.some.injEq, Prod.mk.injEq] at H
          obtain ⟨rfl, rfl⟩ := H
          go_wp2
          go_ret2
          exact ⟨by first | rfl | (simp [errW_none, errW_some] <;> rfl) | (simp [*, errW_none, errW_some] <;> rfl), by repeat (first | (with_reducible first | exact HB.out | apply below_alloc | apply pw_below_drewN | apply below_drew1) | exact HB.out)⟩
  · replace c3 := Bool.eq_false_iff.mpr c3
    subst c3
    have H1 : (some ((⟨#[]⟩ : ByteArray), 1)) = some (r1, r2) := by rw [if_neg (show ¬ (false = true) by decide)] at H; exact H
    clear H
    have H := H1
    clear H1
    simp only [Option.some.injEq, Prod.mk.injEq] at H
    obtain ⟨rfl, rfl⟩ := H
    go_enter Tryd.func54, Tryd.ntmps54
    go_wp2_with (first | ((with_reducible refine gate_callee (f := 36) rfl ?_); refine goesL_ (some 8) rfl rfl Tryd.func36 (by kernel_rfl) rfl #[.slice A0 l0.length c0] rfl (by (try simp only [List.map_toArray, List.map_cons, List.map_nil]); first | done | rfl | (simp only [List.length_drop, List.length_take]; rfl)) ?_; (with_reducible refine (eyewitnessref06_Right.calls k _ _ l0 false _ ?side1 ?side2 A2.out).mono ?_); (case side1 => repeat (first | exact HR0.out | (with_reducible refine Kd.C_alloc ?_ _) | (with_reducible refine Kd.C_drewN ?_ _) | (with_reducible refine Kd.C_drew ?_))); (case side2 => exact HC0.out); rintro e w20 ⟨rfl, hb⟩; refine ⟨_, rfl, ?_⟩; have n0_ := Aside0.mk (below_step (by repeat (first | (with_reducible first | exact HB.out | apply below_alloc | apply pw_below_drewN | apply below_drew1) | exact HB.out)) hb); clear HB; have HB := n0_; clear n0_; (try clear hb); (try clear hb2); (try clear hk); (try clear hi)))
    go_ret2
    exact ⟨by first | rfl | (simp [errW_none, errW_some] <;> rfl) | (simp [*, errW_none, errW_some] <;> rfl), by repeat (first | (with_reducible first | exact HB.out | apply below_alloc | apply pw_below_drewN | apply below_drew1) | exact HB.out)⟩

end Go.Proofs.YtcabnjinfkjnjaaDoor.XH
