/- THE LAW HistTells, walked by hand: each of its calls by its contract; the plain law says that all its comparisons hold. -/
import Derived.Test.YtcabnjinfkjnjaaDoorPureHistC
import Derived.Test.YtcabnjinfkjnjaaDoorXHx7
import Derived.RegionTactic
import Derived.ChangeAlike
namespace Go.Proofs.YtcabnjinfkjnjaaDoor.XH
open Go.RowKit Go.Proofs.YtcabnjinfkjnjaaDoorW.PrintWords Go.Proofs.YtcabnjinfkjnjaaDoorW.PrintLast Go.Proofs.YtcabnjinfkjnjaaDoorW.PrintMore Go.Proofs.YtcabnjinfkjnjaaDoor.X
set_option linter.unusedVariables false
attribute [local go_sem high] eqA55
theorem awake06' : Ev (fun k => eyewitnesslaw06_awake.f k) true := Ev.of (fun k => eyewitnesslaw06_awake.mono k) (k := 10) (by decide +kernel)
theorem allEq_refl : ∀ l : List S61, allEq l l = true
  | [] => rfl
  | x :: l => by
    unfold allEq
    rw [allEq_refl l]
    simp [eqOp]
theorem ev_flat2 (l : List S61) (hl : l.length ≤ 1048576) : Ev (fun k => eyewitnesslaw06_flat.f k l l) true := by
  unfold eyewitnesslaw06_flat.f
  have h := ev_same [l] [l] (by simp) (fun s hs => by
    have : s = 0 := by simpa using hs
    subst this
    exact hl)
  have e : sameV [l] [l] = true := by unfold sameV; rw [allEq_refl]; rfl
  rw [e] at h
  exact Ev.bind h (Ev.now _)
theorem awake_any (w : World) : Calls Tryd.prog 28 #[] w (BoolPost true w) := by
  obtain ⟨k, hk⟩ := awake06'.rounds
  exact eyewitnesslaw06_awake.calls k true w hk
theorem small_any (A : Option Addr) (c : Nat) (h : List (List S61)) (ho : HistOk h) (w : World) (hC : (Kd.slice 61 k61).C w A h.length h) (hc : h.length ≤ c) : Calls Tryd.prog 27 #[.slice A h.length c, .int .i64 60] w (BoolPost (smallV h 60) w) := by
  obtain ⟨k, hk⟩ := (ev_small h ho 60).rounds
  exact eyewitnessref06_Small.calls k A c h 60 _ w hC hc hk
set_option maxHeartbeats 1000000 in
set_option maxRecDepth 100000 in
theorem histTells_yes (A B : Option Addr) (c e : Nat) (a b : List (List S61)) (i s p : Int) (ha : HistOk a) (hb : HistOk b) (hi : i ≤ 9223372036854775807) (w : World) (hCa : (Kd.slice 61 k61).C w A a.length a) (hCb : (Kd.slice 61 k61).C w B b.length b) (hca : a.length ≤ c) (hcb : b.length ≤ e) (hsa : smallV a 60 = true) (hsb : smallV b 60 = true) :
    Calls Tryd.prog 7 #[.agg #[.slice A a.length c, .slice B b.length e, .int .i64 i, .int .i64 s, .int .i64 p]] w (BoolPost true w) := by
  have HCa := Lib.hid hCa
  have HCb := Lib.hid hCb
  have HSa := Lib.hid hsa
  have HSb := Lib.hid hsb
  clear hCa hCb hsa hsb
  go_enter Tryd.func7, Tryd.ntmps7
  go_wp2
  go_region
  obtain ⟨W0, hW0⟩ : ∃ W0, ((w.alloc (.cells #[.slice A a.length c, .slice B b.length e, .int .i64 i, .int .i64 s, .int .i64 p] 64)).alloc (.cells #[.int .i64 s, .int .i64 p] 55)).drew = W0 := ⟨_, rfl⟩
  have hS : W0.heap[w.heap.size + 1]? = some (.cells #[.int .i64 s, .int .i64 p] 55 (0, 0)) := by
    rw [← hW0]
    have := heap_alloc_new (w.alloc (.cells #[.slice A a.length c, .slice B b.length e, .int .i64 i, .int .i64 s, .int .i64 p] 64)) (.cells #[.int .i64 s, .int .i64 p] 55)
    rw [World.size_alloc] at this
    exact this
  have hB0 : Below w.heap.size w W0 := by rw [← hW0]; exact below_drew (below_alloc (below_alloc (Below.refl _ _) _) _)
  rw [hW0]
  clear hW0
  have cs0 : W0.cell? ⟨w.heap.size + 1, 0, none⟩ = some (.int .i64 s) := by simp [World.cell?, hS]
  have cs1 : W0.cell? ⟨w.heap.size + 1, 1, none⟩ = some (.int .i64 p) := by simp [World.cell?, hS]
  have HS0 := Lib.hid cs0
  have HS1 := Lib.hid cs1
  have HB0 := Lib.hid hB0
  clear hS hB0 cs0 cs1
  -- Small, twice
  have CA := Lib.hid (fun W (hB : Below w.heap.size w W) => small_any A c a ha W (Kd.C_below HCa.out hB) hca)
  have CB := Lib.hid (fun W (hB : Below w.heap.size w W) => small_any B e b hb W (Kd.C_below HCb.out hB) hcb)
  rw [HSa.out] at CA
  rw [HSb.out] at CB
  go_wp2_with fail
  refine (CA.out W0 HB0.out).mono ?_
  rintro e1 W1 ⟨rfl, hB1⟩
  have HB1 := Lib.hid (below_step HB0.out hB1)
  have HX1 := Lib.hid hB1
  clear hB1
  go_wp2_with fail
  refine (CB.out W1 HB1.out).mono ?_
  rintro e1 W2 ⟨rfl, hB2⟩
  have HB2 := Lib.hid (below_step HB1.out hB2)
  have HX2 := Lib.hid (below_step HX1.out hB2)
  clear hB2
  -- Spot, the program's and the reference's
  obtain ⟨r1, r2, r3, hr⟩ : ∃ r1 r2 r3, spotV a i = (r1, r2, r3) := ⟨_, _, _, rfl⟩
  have hsp : hist_Spot.f a i = some (r1, r2, r3) := by unfold hist_Spot.f; rw [if_pos hi, hr]
  obtain ⟨k1, hk1⟩ := (ev_spot a ha i hi).rounds
  rw [hr] at hk1
  have HP := Lib.hid hsp
  have HR := Lib.hid hk1
  clear hsp hk1 hr
  go_wp2_with fail
  refine (hist_Spot.calls A c a i r1 r2 r3 W2 (Kd.C_below HCa.out HB2.out) hca HP.out).mono ?_
  rintro e1 W3 ⟨rfl, hB⟩
  have HB3 := Lib.hid (below_step HB2.out hB)
  have HX3 := Lib.hid (below_step HX2.out hB)
  clear hB
  obtain ⟨V3, hV⟩ : ∃ V, W3.alloc (.cells #[.int .i64 r1, .int .i64 r2] 55) = V := ⟨_, rfl⟩
  have hS : V3.heap[W3.heap.size]? = some (.cells #[.int .i64 r1, .int .i64 r2] 55 (0, 0)) := by rw [← hV]; exact heap_alloc_new W3 _
  have hBV : Below W3.heap.size W3 V3 := by rw [← hV]; exact below_alloc (Below.refl _ _) _
  have HBV3 := Lib.hid (below_step HB3.out hBV)
  have HXV3 := Lib.hid (below_step HX3.out hBV)
  have Hp0 := Lib.hid (show V3.cell? ⟨W3.heap.size, 0, none⟩ = some (.int .i64 r1) by simp [World.cell?, hS])
  have Hp1 := Lib.hid (show V3.cell? ⟨W3.heap.size, 1, none⟩ = some (.int .i64 r2) by simp [World.cell?, hS])
  have HYp := Lib.hid (Below.refl V3.heap.size V3)
  clear hS hBV
  go_wp2_with fail
  clear hV
  refine (eyewitnessref06_Spot.calls k1 A c a i r1 r2 r3 V3 (Kd.C_below HCa.out HBV3.out) hca HR.out).mono ?_
  rintro e1 W4 ⟨rfl, hB⟩
  have HB4 := Lib.hid (below_step HBV3.out hB)
  have HX4 := Lib.hid (below_step HXV3.out hB)
  have HYp4 := Lib.hid (below_step HYp.out hB)
  clear hB HYp
  obtain ⟨V4, hV⟩ : ∃ V, W4.alloc (.cells #[.int .i64 r1, .int .i64 r2] 55) = V := ⟨_, rfl⟩
  have hS : V4.heap[W4.heap.size]? = some (.cells #[.int .i64 r1, .int .i64 r2] 55 (0, 0)) := by rw [← hV]; exact heap_alloc_new W4 _
  have hBV : Below W4.heap.size W4 V4 := by rw [← hV]; exact below_alloc (Below.refl _ _) _
  have HBV4 := Lib.hid (below_step HB4.out hBV)
  have HXV4 := Lib.hid (below_step HX4.out hBV)
  have Hq0 := Lib.hid (show V4.cell? ⟨W4.heap.size, 0, none⟩ = some (.int .i64 r1) by simp [World.cell?, hS])
  have Hq1 := Lib.hid (show V4.cell? ⟨W4.heap.size, 1, none⟩ = some (.int .i64 r2) by simp [World.cell?, hS])
  have HYq := Lib.hid (Below.refl V4.heap.size V4)
  clear hS hBV
  have HYpV := Lib.hid (below_step HYp4.out (show Below W4.heap.size W4 V4 by rw [← hV]; exact below_alloc (Below.refl _ _) _))
  have c60 := pw_cell_below HXV4.out HS0.out
  have c61 := pw_cell_below HXV4.out HS1.out
  obtain ⟨n1, n2, hn⟩ : ∃ n1 n2, numberV a s p = (n1, n2) := ⟨_, _, rfl⟩
  have hnp : hist_Number.f a s p = some (n1, n2) := by unfold hist_Number.f; rw [if_pos (by rw [spotsL_len]; have := ha.ops; omega), hn]
  obtain ⟨k2, hk2⟩ := (ev_number a ha s p).rounds
  rw [hn] at hk2
  have HN := Lib.hid hnp
  have HM := Lib.hid hk2
  clear hnp hk2 hn
  go_wp2_with fail
  clear c60 c61 hV
  refine (hist_Number.calls A c a s p n1 n2 V4 (Kd.C_below HCa.out HBV4.out) hca HN.out).mono ?_
  rintro e1 W5 ⟨rfl, hB⟩
  have HB5 := Lib.hid (below_step HBV4.out hB)
  have HX5 := Lib.hid (below_step HXV4.out hB)
  have HYp5 := Lib.hid (below_step HYpV.out hB)
  have HYq5 := Lib.hid (below_step HYq.out hB)
  clear hB HYpV HYq
  have c60 := pw_cell_below HX5.out HS0.out
  have c61 := pw_cell_below HX5.out HS1.out
  go_wp2_with fail
  refine (eyewitnessref06_Number.calls k2 A c a s p n1 n2 W5 (Kd.C_below HCa.out HB5.out) hca HM.out).mono ?_
  rintro e1 W6 ⟨rfl, hB⟩
  have HB6 := Lib.hid (below_step HB5.out hB)
  have HYp6 := Lib.hid (below_step HYp5.out hB)
  have HYq6 := Lib.hid (below_step HYq5.out hB)
  clear hB c60 c61 HX5 HS0 HS1
  go_wp2_with fail
  refine (awake_any W6).mono ?_
  rintro e1 W7 ⟨rfl, hB⟩
  have HB7 := Lib.hid (below_step HB6.out hB)
  have HYp7 := Lib.hid (below_step HYp6.out hB)
  have HYq7 := Lib.hid (below_step HYq6.out hB)
  clear hB
  have HRT := Lib.hid (show hist_Right.f a = some (rightV a) by unfold hist_Right.f; rw [if_pos (by have := ha.ops; omega)])
  obtain ⟨k3, hk3⟩ := (ev_right a ha).rounds
  have HRR := Lib.hid hk3
  clear hk3
  go_wp2_with fail
  refine (hist_Right.calls A c a (rightV a) W7 (Kd.C_below HCa.out HB7.out) hca HRT.out).mono ?_
  rintro e1 W8 ⟨rfl, hB⟩
  have HB8 := Lib.hid (below_step HB7.out hB)
  have HYp8 := Lib.hid (below_step HYp7.out hB)
  have HYq8 := Lib.hid (below_step HYq7.out hB)
  clear hB
  go_wp2_with fail
  refine (eyewitnessref06_Right.calls k3 A c a (rightV a) W8 (Kd.C_below HCa.out HB8.out) hca HRR.out).mono ?_
  rintro e1 W9 ⟨rfl, hB⟩
  have HB9 := Lib.hid (below_step HB8.out hB)
  have HYp9 := Lib.hid (below_step HYp8.out hB)
  have HYq9 := Lib.hid (below_step HYq8.out hB)
  clear hB
  obtain ⟨fl, hfl⟩ : ∃ fl, a.flatten = fl := ⟨_, rfl⟩
  have hfo : fl.length ≤ 1048576 := by rw [← hfl]; exact ha.ops
  obtain ⟨k4, hk4⟩ := (ev_hcount a ha).rounds
  rw [hfl] at hk4
  have HCT := Lib.hid hk4
  obtain ⟨k5, hk5⟩ := (ev_count a ha).rounds
  rw [hfl] at hk5
  have HCU := Lib.hid hk5
  have HFE := Lib.hid hfl
  clear hk4 hk5 hfl
  go_wp2_with fail
  refine (hist_Count.calls k4 A c a fl.length W9 (Kd.C_below HCa.out HB9.out) hca HCT.out).mono ?_
  rintro e1 W10 ⟨rfl, hB⟩
  replace hB := hB.below
  have HB10 := Lib.hid (below_step HB9.out hB)
  have HYp10 := Lib.hid (below_step HYp9.out hB)
  have HYq10 := Lib.hid (below_step HYq9.out hB)
  clear hB
  go_wp2_with fail
  refine (eyewitnessref06_Count.calls k5 A c a fl.length W10 (Kd.C_below HCa.out HB10.out) hca HCU.out).mono ?_
  rintro e1 W11 ⟨rfl, hB⟩
  have HB11 := Lib.hid (below_step HB10.out hB)
  have HYp11 := Lib.hid (below_step HYp10.out hB)
  have HYq11 := Lib.hid (below_step HYq10.out hB)
  clear hB
  have HFL := Lib.hid (show hist_Flat.f a = some fl by unfold hist_Flat.f; rw [if_pos (by have := ha.ops; omega), HFE.out])
  obtain ⟨k6, hk6⟩ := (ev_flat a ha).rounds
  rw [HFE.out] at hk6
  have HFR := Lib.hid hk6
  obtain ⟨k7, hk7⟩ := (ev_flat2 fl hfo).rounds
  have HFF := Lib.hid hk7
  clear hk6 hk7
  go_wp2_with fail
  refine (hist_Flat.calls A c a fl W11 (Kd.C_below HCa.out HB11.out) hca HFL.out).mono ?_
  rintro e1 W12 ⟨v1, rfl, hR1, hB⟩
  have HB12 := Lib.hid (below_step HB11.out hB)
  have HYp12 := Lib.hid (below_step HYp11.out hB)
  have HYq12 := Lib.hid (below_step HYq11.out hB)
  clear hB
  have hV1 : Kd.V k61 61 W12 W12.heap.size (fun _ => True) v1 fl := Kd.R_V hR1
  obtain ⟨A1, c1, rfl⟩ := Kd.V_slice hV1
  have HV1 := Lib.hid hV1
  clear hR1 hV1
  go_wp2_with fail
  refine (eyewitnessref06_Flat.calls k6 A c a fl W12 (Kd.C_below HCa.out HB12.out) hca HFR.out).mono ?_
  rintro e1 W13 ⟨v2, rfl, hR2, hB⟩
  have HB13 := Lib.hid (below_step HB12.out hB)
  have HYp13 := Lib.hid (below_step HYp12.out hB)
  have HYq13 := Lib.hid (below_step HYq12.out hB)
  have HV1b := Lib.hid (Kd.V_lower (base' := 0) (Kd.V_below HV1.out hB) (Nat.zero_le _))
  clear hB
  have hV2 : Kd.V k61 61 W13 W13.heap.size (fun _ => True) v2 fl := Kd.R_V hR2
  obtain ⟨A2, c2, rfl⟩ := Kd.V_slice hV2
  have HV2 := Lib.hid hV2
  clear hR2 hV2
  go_wp2_with fail
  refine (eyewitnesslaw06_flat.calls k7 (fun _ => True) A1 c1 fl (fun _ => True) A2 c2 fl true W13 HV1b.out HV2.out HFF.out).mono ?_
  rintro e1 W14 ⟨rfl, hB⟩
  have HB14 := Lib.hid (below_step HB13.out hB)
  have HYp14 := Lib.hid (below_step HYp13.out hB)
  have HYq14 := Lib.hid (below_step HYq13.out hB)
  clear hB
  have d0 := pw_cell_below HYp14.out Hp0.out
  have d1 := pw_cell_below HYp14.out Hp1.out
  have d2 := pw_cell_below HYq14.out Hq0.out
  have d3 := pw_cell_below HYq14.out Hq1.out
  obtain ⟨k8, hk8⟩ := (ev_same a b ha.sessions (ho_row ha)).rounds
  have HSM := Lib.hid hk8
  clear hk8
  go_wp2_with fail
  refine (hist_Same.calls A c a B e b (sameV a b) W14 (Kd.C_below HCa.out HB14.out) hca (Kd.C_below HCb.out HB14.out) hcb rfl).mono ?_
  rintro e1 W15 ⟨rfl, hB⟩
  have HB15 := Lib.hid (below_step HB14.out hB)
  have HYp15 := Lib.hid (below_step HYp14.out hB)
  have HYq15 := Lib.hid (below_step HYq14.out hB)
  clear hB
  clear d0 d1 d2 d3
  go_wp2_with fail
  refine (eyewitnessref06_Same.calls k8 A c a B e b (sameV a b) W15 (Kd.C_below HCa.out HB15.out) hca (Kd.C_below HCb.out HB15.out) hcb HSM.out).mono ?_
  rintro e1 W16 ⟨rfl, hB⟩
  replace hB := hB.below
  have HB16 := Lib.hid (below_step HB15.out hB)
  have HYp16 := Lib.hid (below_step HYp15.out hB)
  have HYq16 := Lib.hid (below_step HYq15.out hB)
  clear hB
  go_wp2_with fail
  go_ret
  exact ⟨rfl, HB16.out⟩
end Go.Proofs.YtcabnjinfkjnjaaDoor.XH
