/- THE LAW HistJoins, walked by hand: each of its calls by its contract; the plain law says that all its comparisons hold. -/
import Derived.Test.YtcabnjinfkjnjaaDoorPureHistTells
namespace Go.Proofs.YtcabnjinfkjnjaaDoor.XH
open Go.RowKit Go.Proofs.YtcabnjinfkjnjaaDoorW.PrintWords Go.Proofs.YtcabnjinfkjnjaaDoorW.PrintLast Go.Proofs.YtcabnjinfkjnjaaDoorW.PrintMore Go.Proofs.YtcabnjinfkjnjaaDoor.X
set_option linter.unusedVariables false
/-- An empty literal. -/
theorem R_lit0 {α : Type} (d : Kd α) (e : Nat) (W : World) (base : Nat) (hb : base ≤ W.heap.size) : d.R e (W.alloc (.cells #[] e)) base (fun _ => True) (.slice (some ⟨W.heap.size, 0, none⟩) 0 0) [] := by
  refine ⟨fun _ _ => trivial, [], ?_, Reps.none _ _⟩
  refine ⟨by simp, .inr ⟨W.heap.size, 0, #[], rfl, hb, heap_alloc_new W _, Nat.le_refl _, Nat.zero_le _, by simp, by simp⟩⟩
theorem fixed_C {α : Type} {d : Kd α} {w W : World} {A : Option Addr} {n : Nat} {xs : List α} (h : (Kd.fixed d w).C W A n xs) (hB : Below w.heap.size w W) : d.C W A n xs := ReadsRow.imp_ h (Below.refl _ _) (fun _ _ hp => d.K_below hB hp)
theorem smallV_iff {h : List (List S61)} {n : Nat} (hs : smallV h n = true) : h.length ≤ n ∧ h.flatten.length ≤ n := by
  unfold smallV at hs
  simp only [Bool.and_eq_true, decide_eq_true_eq] at hs
  exact ⟨hs.1, hs.2.1⟩
theorem histOk_app {a b : List (List S61)} (ha : HistOk a) (hb : HistOk b) (h1 : smallV a 60 = true) (h2 : smallV b 60 = true) : HistOk (a ++ b) := by
  have s1 := smallV_iff h1
  have s2 := smallV_iff h2
  refine ⟨by rw [List.length_append]; omega, by rw [List.flatten_append, List.length_append]; omega, ?_⟩
  intro x hx
  rw [List.flatten_append, List.mem_append] at hx
  rcases hx with h | h
  · exact ha.each x h
  · exact hb.each x h
theorem right_app {a b : List (List S61)} (h1 : smallV a 60 = true) (h2 : smallV b 60 = true) : rightV (a ++ b) = (rightV a && rightV b) := by
  have s1 := smallV_iff h1
  have s2 := smallV_iff h2
  unfold rightV
  have e : (a ++ b).flatten.length = a.flatten.length + b.flatten.length := by rw [List.flatten_append, List.length_append]
  rw [e, List.flatten_append, List.any_append, decide_eq_true (by omega : a.flatten.length + b.flatten.length ≤ 4096), decide_eq_true (by omega : a.flatten.length ≤ 4096), decide_eq_true (by omega : b.flatten.length ≤ 4096)]
  simp [Bool.not_or]
theorem sameV_refl : ∀ h : List (List S61), sameV h h = true
  | [] => rfl
  | x :: l => by
    unfold sameV
    rw [allEq_refl x, sameV_refl l]
    rfl
set_option maxHeartbeats 1000000 in
set_option maxRecDepth 100000 in
theorem histJoins_yes (A B : Option Addr) (c e : Nat) (a b : List (List S61)) (ha : HistOk a) (hb : HistOk b) (w : World) (hCa : (Kd.slice 61 k61).C w A a.length a) (hCb : (Kd.slice 61 k61).C w B b.length b) (hca : a.length ≤ c) (hcb : b.length ≤ e) (hsa : smallV a 60 = true) (hsb : smallV b 60 = true) :
    Calls Tryd.prog 8 #[.slice A a.length c, .slice B b.length e] w (BoolPost true w) := by
  have HCa := Lib.hid hCa
  have HCb := Lib.hid hCb
  have HSa := Lib.hid hsa
  have HSb := Lib.hid hsb
  clear hCa hCb hsa hsb
  go_enter Tryd.func8, Tryd.ntmps8
  have CA := Lib.hid (fun W (hB : Below w.heap.size w W) => small_any A c a ha W (Kd.C_below HCa.out hB) hca)
  have CB := Lib.hid (fun W (hB : Below w.heap.size w W) => small_any B e b hb W (Kd.C_below HCb.out hB) hcb)
  rw [HSa.out] at CA
  rw [HSb.out] at CB
  go_wp2_with fail
  refine (CA.out w (Below.refl _ _)).mono ?_
  rintro e1 W1 ⟨rfl, hB1⟩
  have HB1 := Lib.hid hB1
  clear hB1
  go_wp2_with fail
  refine (CB.out W1 HB1.out).mono ?_
  rintro e1 W2 ⟨rfl, hB2⟩
  have HB2 := Lib.hid (below_step HB1.out hB2)
  clear hB2
  have hB2 := HB2.out.size
  have hla := (ha.sessions)
  have hlb := (hb.sessions)
  go_wp2_with (first
    | ((with_reducible refine gate_builtin (b := .append) (xs := #[.tmp 15, .tmp 16]) rfl ?_); refine Kd.R_append_rows (Kd.fixed (Kd.slice 61 k61) w) (Rr := (Kd.slice 61 k61).K w) (w0 := w) w.heap.size rfl (.tmp 15) (.tmp 16) 49 51 (.slice none 0 0) 24 rfl Tryd.underlying49 info51 rfl (Nat.zero_lt_one) (by decide) _ [] a A a.length c (fun _ => True) (fun _ => False) rfl rfl (R_lit0 _ 51 W2 w.heap.size hB2) (ReadsRow.imp_ HCa.out (below_alloc HB2.out _) (fun _ _ h => h)) (fun x cs hx => hx) (fun _ hf => hf.elim) (fun _ _ => trivial) (below_alloc HB2.out _) (by simp; omega) (by simp; omega) ?_; intro v1 w3 hR hB hg hat; have HR1 := Lib.hid hR; have HBw3 := Lib.hid hB; clear hR hB hg hat)
    | ((with_reducible refine gate_builtin (b := .append) (xs := #[.tmp 17, .tmp 18]) rfl ?_); refine Kd.R_append_rows (Kd.fixed (Kd.slice 61 k61) w) (Rr := (Kd.slice 61 k61).K w) (w0 := w) w.heap.size rfl (.tmp 17) (.tmp 18) 49 51 (.slice none 0 0) 24 rfl Tryd.underlying49 info51 rfl (Nat.zero_lt_one) (by decide) _ ([] ++ a) b B b.length e (fun _ => True) (fun _ => False) rfl rfl HR1.out (ReadsRow.imp_ HCb.out HBw3.out (fun _ _ h => h)) (fun x cs hx => hx) (fun _ hf => hf.elim) (fun _ _ => trivial) HBw3.out HBw3.out.size (by simp; omega) ?_; intro v2 w4 hR hB hg hat; have HR2 := Lib.hid hR; have HBw4 := Lib.hid hB; clear hR hB hg hat))
  have HW4 := Lib.hid HBw4.out
  -- the joined history
  have HRA : (Kd.fixed (Kd.slice 61 k61) w).R 51 w4 w.heap.size (fun _ => True) v2 (a ++ b) := HR2.out
  obtain ⟨ab, hab⟩ : ∃ ab, a ++ b = ab := ⟨_, rfl⟩
  rw [hab] at HRA
  have hVA : Kd.V (Kd.fixed (Kd.slice 61 k61) w) 51 w4 w.heap.size (fun _ => True) v2 ab := Kd.R_V HRA
  obtain ⟨AC, cc, rfl⟩ := Kd.V_slice hVA
  have hcc := (Kd.V_reads' hVA).2.1
  have HX4 := Lib.hid (Kd.V_bound hVA)
  have HAB := Lib.hid hab
  have hoc : HistOk ab := by rw [← hab]; exact histOk_app ha hb HSa.out HSb.out
  have hsm1 := smallV_iff HSa.out
  have hsm2 := smallV_iff HSb.out
  clear HRA hVA
  obtain ⟨fa, hfa⟩ : ∃ fa, a.flatten = fa := ⟨_, rfl⟩
  obtain ⟨fb, hfb⟩ : ∃ fb, b.flatten = fb := ⟨_, rfl⟩
  obtain ⟨fc, hfc⟩ : ∃ fc, ab.flatten = fc := ⟨_, rfl⟩
  have hfe : fa ++ fb = fc := by rw [← hfa, ← hfb, ← hfc, ← hab, List.flatten_append]
  have hla' : a.length ≤ ab.length := by rw [← hab, List.length_append]; omega
  rw [hfa] at hsm1
  rw [hfb] at hsm2
  have hfl : fc.length = fa.length + fb.length := by rw [← hfe, List.length_append]
  have HFa := Lib.hid hfa
  have HFb := Lib.hid hfb
  have HFc := Lib.hid hfc
  have HFe := Lib.hid hfe
  have HFL := Lib.hid hfl
  clear hab hfa hfb hfc hfe hfl
  have FC := Lib.hid (show hist_Flat.f ab = some fc by unfold hist_Flat.f; rw [if_pos (by have := hoc.ops; omega), HFc.out])
  have FA := Lib.hid (show hist_Flat.f a = some fa by unfold hist_Flat.f; rw [if_pos (by have := ha.ops; omega), HFa.out])
  have FB := Lib.hid (show hist_Flat.f b = some fb by unfold hist_Flat.f; rw [if_pos (by have := hb.ops; omega), HFb.out])
  refine (awake_any w4).mono ?_
  rintro e1 W5 ⟨rfl, hB⟩
  have HB5 := Lib.hid (below_step HBw4.out hB)
  have HX5 := Lib.hid (Kd.V_below HX4.out hB)
  have HS5 := Lib.hid hB.size
  clear hB
  go_wp2_with fail
  refine (hist_Flat.calls AC cc ab fc W5 (fixed_C (Kd.V_reads' HX5.out).2.2 HB5.out) hcc FC.out).mono ?_
  rintro e1 W6 ⟨v3, rfl, hR3, hB⟩
  have hV3 : Kd.V k61 61 W6 W6.heap.size (fun _ => True) v3 fc := Kd.R_V hR3
  obtain ⟨A3, c3, rfl⟩ := Kd.V_slice hV3
  have HV6 := Lib.hid hV3
  have HB6 := Lib.hid (below_step HB5.out hB)
  have HX6 := Lib.hid (Kd.V_below HX5.out hB)
  have HS6w := Lib.hid (Nat.le_trans HS5.out hB.size)
  clear hB hR3 hV3 HX5 HX4
  obtain ⟨V6, hV⟩ : ∃ V, W6.alloc (.cells #[] 61) = V := ⟨_, rfl⟩
  have hBV : Below W6.heap.size W6 V6 := by rw [← hV]; exact below_alloc (Below.refl _ _) _
  have hL : k61.R 61 V6 w.heap.size (fun _ => True) (.slice (some ⟨W6.heap.size, 0, none⟩) 0 0) [] := by rw [← hV]; exact R_lit0 k61 61 W6 w.heap.size HB6.out.size
  have HL6 := Lib.hid hL
  have HVV6 := Lib.hid (Kd.V_below (Kd.V_bound HV6.out) hBV)
  have HBV6 := Lib.hid (below_step HB6.out hBV)
  have HXV6 := Lib.hid (Kd.V_below HX6.out hBV)
  have HS6 := Lib.hid hBV.size
  clear hL hBV HV6 HX6
  go_wp2_with fail
  clear hV
  refine (hist_Flat.calls A c a fa V6 (Kd.C_below HCa.out HBV6.out) hca FA.out).mono ?_
  rintro e1 W7 ⟨v4, rfl, hR4, hB⟩
  have hV4 : Kd.V k61 61 W7 W7.heap.size (fun _ => True) v4 fa := Kd.R_V hR4
  obtain ⟨A4, c4, rfl⟩ := Kd.V_slice hV4
  have HV4 := Lib.hid (Kd.V_reads' hV4).2.2
  have HL7 := Lib.hid (Kd.R_below HL6.out hB)
  have HV7 := Lib.hid (Kd.V_below HVV6.out hB)
  have HB7 := Lib.hid (below_step HBV6.out hB)
  have HX7 := Lib.hid (Kd.V_below HXV6.out hB)
  have HS7 := Lib.hid (Nat.le_trans HS6.out hB.size)
  clear hB hR4 hV4 HL6 HVV6 HXV6
  go_wp2_with ((with_reducible refine gate_builtin (b := .append) (xs := #[.tmp 24, .tmp 26]) rfl ?_); (refine gate_guard (by rfl) ?_; dsimp only); at_builtin; refine Kd.R_append_rows k61 (Rr := k61.K W7) (w0 := w) w.heap.size rfl (.tmp 24) (.tmp 26) 51 61 (.agg #[(.bool false), (.string ⟨#[]⟩), (.int .i64 0)]) 32 rfl Tryd.underlying51 info61 rfl (by decide) (by omega) _ [] fa A4 fa.length c4 (fun _ => True) (fun _ => False) rfl rfl HL7.out HV4.out (fun _ _ h => h) (fun _ h => h.elim) (fun _ _ => trivial) HB7.out (Below.size HB7.out) (by (try rw [List.length_append]); simp only [List.length_nil]; omega) ?_; intro v5 W8 hR hB hg hat; have HR8 := Lib.hid hR; have HB8 := Lib.hid hB; have HG8 := Lib.hid hg; have HT8 := Lib.hid hat; clear hR hB hg hat)
  have hT8 : ∃ b, v5.ownBlock = some b ∧ W6.heap.size ≤ b := by
    rcases HT8.out with h | ⟨b, h, hb⟩
    · exact ⟨W6.heap.size, h, Nat.le_refl _⟩
    · exact ⟨b, h, Nat.le_trans HS7.out hb⟩
  obtain ⟨g5, hg5, hg5'⟩ := hT8
  have HV8 := Lib.hid (Kd.V_grown HV7.out HG8.out (fun k hk h => absurd (show k = W6.heap.size from Option.some.inj h) (by have := hk.2; omega)))
  have HG5 := Lib.hid hg5
  have HG5' := Lib.hid hg5'
  have HX8 := Lib.hid (Kd.V_grown HX7.out HG8.out (fun k hk h => absurd (show k = W6.heap.size from Option.some.inj h) (by have := hk.2; have := HS6w.out; omega)))
  clear hg5 hg5' HV7 HL7 HX7
  go_wp2_with fail
  refine (hist_Flat.calls B e b fb W8 (Kd.C_below HCb.out HB8.out) hcb FB.out).mono ?_
  rintro e1 W9 ⟨v6, rfl, hR6, hB⟩
  have hV6 : Kd.V k61 61 W9 W9.heap.size (fun _ => True) v6 fb := Kd.R_V hR6
  obtain ⟨A6, c6, rfl⟩ := Kd.V_slice hV6
  have HV6 := Lib.hid (Kd.V_reads' hV6).2.2
  have HR9 := Lib.hid (Kd.R_below HR8.out hB)
  have HV9 := Lib.hid (Kd.V_below HV8.out hB)
  have HB9 := Lib.hid (below_step HB8.out hB)
  have HX9 := Lib.hid (Kd.V_below HX8.out hB)
  clear hB hR6 hV6 HR8 HV8 HX8
  go_wp2_with ((with_reducible refine gate_builtin (b := .append) (xs := #[.tmp 27, .tmp 29]) rfl ?_); (refine gate_guard (by rfl) ?_; dsimp only); at_builtin; refine Kd.R_append_rows k61 (Rr := k61.K W9) (w0 := w) w.heap.size rfl (.tmp 27) (.tmp 29) 51 61 (.agg #[(.bool false), (.string ⟨#[]⟩), (.int .i64 0)]) 32 rfl Tryd.underlying51 info61 rfl (by decide) (by omega) _ ([] ++ fa) fb A6 fb.length c6 (fun _ => True) (fun _ => False) rfl rfl HR9.out HV6.out (fun _ _ h => h) (fun _ h => h.elim) (fun _ _ => trivial) HB9.out (Below.size HB9.out) (by (try rw [List.length_append]); simp only [List.length_nil]; omega) ?_; intro v7 W10 hR hB hg hat; have HR10 := Lib.hid hR; have HB10 := Lib.hid hB; have HG10 := Lib.hid hg; clear hR hB hg hat)
  have HV10 := Lib.hid (Kd.V_grown HV9.out HG10.out (fun k hk h => absurd (Option.some.inj (h.trans HG5.out)) (by have := hk.2; have := HG5'.out; omega)))
  have HX10 := Lib.hid (Kd.V_grown HX9.out HG10.out (fun k hk h => absurd (Option.some.inj (h.trans HG5.out)) (by have := hk.2; have := HG5'.out; have := HS6w.out; omega)))
  have hRf : k61.R 61 W10 w.heap.size (fun _ => True) v7 (fa ++ fb) := HR10.out
  rw [HFe.out] at hRf
  have hV7 : Kd.V k61 61 W10 W10.heap.size (fun _ => True) v7 fc := Kd.R_V hRf
  obtain ⟨A7, c7, rfl⟩ := Kd.V_slice hV7
  have HV7 := Lib.hid hV7
  clear hRf hV7 HR10 HR9 HV9 HX9 HG5 HG5' HG8 HG10 HT8
  have HC0 := Lib.hid hoc.ops
  obtain ⟨k1, hk1⟩ := (ev_flat2 fc (by rw [← HFc.out]; exact hoc.ops)).rounds
  have HK1 := Lib.hid hk1
  obtain ⟨k2, hk2⟩ := (ev_hcount ab hoc).rounds
  obtain ⟨k3, hk3⟩ := (ev_hcount a ha).rounds
  obtain ⟨k4, hk4⟩ := (ev_hcount b hb).rounds
  rw [HFc.out, HFL.out] at hk2
  rw [HFa.out] at hk3
  rw [HFb.out] at hk4
  have HK2 := Lib.hid hk2
  have HK3 := Lib.hid hk3
  have HK4 := Lib.hid hk4
  clear hk1 hk2 hk3 hk4
  have HRC := Lib.hid (show hist_Right.f ab = some (rightV a && rightV b) by unfold hist_Right.f; rw [if_pos (by have := hoc.ops; omega), ← HAB.out, right_app HSa.out HSb.out])
  have HRA := Lib.hid (show hist_Right.f a = some (rightV a) by unfold hist_Right.f; rw [if_pos (by have := ha.ops; omega)])
  have HRB := Lib.hid (show hist_Right.f b = some (rightV b) by unfold hist_Right.f; rw [if_pos (by have := hb.ops; omega)])
  go_wp2_with fail
  refine (eyewitnesslaw06_flat.calls k1 (fun k => True ∧ k < W6.heap.size) A3 c3 fc (fun _ => True) A7 c7 fc true W10 HV10.out HV7.out HK1.out).mono ?_
  rintro e1 W11 ⟨rfl, hB⟩
  have HB11 := Lib.hid (below_step HB10.out hB)
  have HX11 := Lib.hid (Kd.V_below HX10.out hB)
  clear hB
  go_wp2_with fail
  refine (hist_Count.calls k2 AC cc ab _ W11 (fixed_C (Kd.V_reads' HX11.out).2.2 HB11.out) hcc HK2.out).mono ?_
  rintro e1 W12 ⟨rfl, hB⟩
  replace hB := hB.below
  have HB12 := Lib.hid (below_step HB11.out hB)
  have HX12 := Lib.hid (Kd.V_below HX11.out hB)
  clear hB
  go_wp2_with fail
  refine (hist_Count.calls k3 A c a _ W12 (Kd.C_below HCa.out HB12.out) hca HK3.out).mono ?_
  rintro e1 W13 ⟨rfl, hB⟩
  replace hB := hB.below
  have HB13 := Lib.hid (below_step HB12.out hB)
  have HX13 := Lib.hid (Kd.V_below HX12.out hB)
  clear hB
  go_wp2_with fail
  refine (hist_Count.calls k4 B e b _ W13 (Kd.C_below HCb.out HB13.out) hcb HK4.out).mono ?_
  rintro e1 W14 ⟨rfl, hB⟩
  replace hB := hB.below
  have HB14 := Lib.hid (below_step HB13.out hB)
  have HX14 := Lib.hid (Kd.V_below HX13.out hB)
  clear hB
  go_wp2_with fail
  refine (hist_Right.calls AC cc ab _ W14 (fixed_C (Kd.V_reads' HX14.out).2.2 HB14.out) hcc HRC.out).mono ?_
  rintro e1 W15 ⟨rfl, hB⟩
  have HB15 := Lib.hid (below_step HB14.out hB)
  have HX15 := Lib.hid (Kd.V_below HX14.out hB)
  clear hB
  go_wp2_with fail
  refine (hist_Right.calls A c a _ W15 (Kd.C_below HCa.out HB15.out) hca HRA.out).mono ?_
  rintro e1 W16 ⟨rfl, hB⟩
  have HB16 := Lib.hid (below_step HB15.out hB)
  have HX16 := Lib.hid (Kd.V_below HX15.out hB)
  clear hB
  have htk : ab.take a.length = a := by rw [← HAB.out, List.take_left]
  have hTS : ∀ W, Below W16.heap.size W16 W → Calls Tryd.prog 40 #[.slice AC a.length cc, .slice A a.length c] W (BoolPost true W) := by
    intro W hB
    have h1 := fixed_C (Kd.V_reads' (Kd.V_below HX16.out hB)).2.2 (below_step HB16.out hB)
    have h2 := Kd.C_take h1 hla'
    rw [htk] at h2
    have := hist_Same.calls AC cc a A c a true W h2 (by omega) (Kd.C_below HCa.out (below_step HB16.out hB)) hca (by unfold hist_Same.f; rw [sameV_refl])
    exact this
  have HTS := Lib.hid hTS
  clear htk hTS
  go_wp2_with fail
  · refine (hist_Right.calls B e b _ W16 (Kd.C_below HCb.out HB16.out) hcb HRB.out).mono ?_
    rintro e1 W17 ⟨rfl, hB⟩
    have HY17 := Lib.hid hB
    have HB17 := Lib.hid (below_step HB16.out hB)
    clear hB
    go_wp2_with fail
    refine (HTS.out W17 HY17.out).mono ?_
    rintro e1 W18 ⟨rfl, hB⟩
    have HB18 := Lib.hid (below_step HB17.out hB)
    clear hB
    go_wp2_with fail
    go_ret
    exact ⟨rfl, HB18.out⟩
  · refine (HTS.out W16 (Below.refl _ _)).mono ?_
    rintro e1 W18 ⟨rfl, hB⟩
    have HB18 := Lib.hid (below_step HB16.out hB)
    clear hB
    go_wp2_with fail
    go_ret
    exact ⟨rfl, HB18.out⟩
set_option maxHeartbeats 1000000 in
set_option maxRecDepth 100000 in
theorem histJoins_no1 (A B : Option Addr) (c e : Nat) (a b : List (List S61)) (ha : HistOk a) (w : World) (hCa : (Kd.slice 61 k61).C w A a.length a) (hca : a.length ≤ c) (hsa : smallV a 60 = false) :
    Calls Tryd.prog 8 #[.slice A a.length c, .slice B b.length e] w (BoolPost true w) := by
  have HCa := Lib.hid hCa
  have HSa := Lib.hid hsa
  clear hCa hsa
  go_enter Tryd.func8, Tryd.ntmps8
  have CA := Lib.hid (fun W (hB : Below w.heap.size w W) => small_any A c a ha W (Kd.C_below HCa.out hB) hca)
  rw [HSa.out] at CA
  go_wp2_with fail
  refine (CA.out w (Below.refl _ _)).mono ?_
  rintro e1 W1 ⟨rfl, hB1⟩
  have HB1 := Lib.hid hB1
  clear hB1
  go_wp2_with fail
  refine (awake_any W1).mono ?_
  rintro e1 W2 ⟨rfl, hB⟩
  have HB2 := Lib.hid (below_step HB1.out hB)
  clear hB
  go_wp2_with fail
  go_ret
  exact ⟨rfl, HB2.out⟩
set_option maxHeartbeats 1000000 in
set_option maxRecDepth 100000 in
theorem histJoins_no2 (A B : Option Addr) (c e : Nat) (a b : List (List S61)) (ha : HistOk a) (hb : HistOk b) (w : World) (hCa : (Kd.slice 61 k61).C w A a.length a) (hCb : (Kd.slice 61 k61).C w B b.length b) (hca : a.length ≤ c) (hcb : b.length ≤ e) (hsa : smallV a 60 = true) (hsb : smallV b 60 = false) :
    Calls Tryd.prog 8 #[.slice A a.length c, .slice B b.length e] w (BoolPost true w) := by
  have HCa := Lib.hid hCa
  have HCb := Lib.hid hCb
  have HSa := Lib.hid hsa
  have HSb := Lib.hid hsb
  clear hCa hCb hsa hsb
  go_enter Tryd.func8, Tryd.ntmps8
  have CA := Lib.hid (fun W (hB : Below w.heap.size w W) => small_any A c a ha W (Kd.C_below HCa.out hB) hca)
  have CB := Lib.hid (fun W (hB : Below w.heap.size w W) => small_any B e b hb W (Kd.C_below HCb.out hB) hcb)
  rw [HSa.out] at CA
  rw [HSb.out] at CB
  go_wp2_with fail
  refine (CA.out w (Below.refl _ _)).mono ?_
  rintro e1 W1 ⟨rfl, hB1⟩
  have HB1 := Lib.hid hB1
  clear hB1
  go_wp2_with fail
  refine (CB.out W1 HB1.out).mono ?_
  rintro e1 W2 ⟨rfl, hB2⟩
  have HB2 := Lib.hid (below_step HB1.out hB2)
  clear hB2
  go_wp2_with fail
  refine (awake_any W2).mono ?_
  rintro e1 W3 ⟨rfl, hB⟩
  have HB3 := Lib.hid (below_step HB2.out hB)
  clear hB
  go_wp2_with fail
  go_ret
  exact ⟨rfl, HB3.out⟩
theorem histJoins_any (A B : Option Addr) (c e : Nat) (a b : List (List S61)) (ha : HistOk a) (hb : HistOk b) (w : World) (hCa : (Kd.slice 61 k61).C w A a.length a) (hCb : (Kd.slice 61 k61).C w B b.length b) (hca : a.length ≤ c) (hcb : b.length ≤ e) :
    Calls Tryd.prog 8 #[.slice A a.length c, .slice B b.length e] w (BoolPost true w) := by
  cases hsa : smallV a 60 with
  | false => exact histJoins_no1 A B c e a b ha w hCa hca hsa
  | true =>
    cases hsb : smallV b 60 with
    | false => exact histJoins_no2 A B c e a b ha hb w hCa hCb hca hcb hsa hsb
    | true => exact histJoins_yes A B c e a b ha hb w hCa hCb hca hcb hsa hsb
theorem histJoins_walk (A : Option Addr) (c : Nat) (a : List (List S61)) (ha : HistOk a) (B : Option Addr) (e : Nat) (b : List (List S61)) (hb : HistOk b) (w : World) (hCa : (Kd.slice 61 k61).C w A a.length a) (hca : a.length ≤ c) (hCb : (Kd.slice 61 k61).C w B b.length b) (hcb : b.length ≤ e) :
    Calls Tryd.prog 8 #[.slice A a.length c, .slice B b.length e] w fun e w' => e = .returned (.bool true) ∧ Below w.heap.size w w' := histJoins_any A B c e a b ha hb w hCa hCb hca hcb
end Go.Proofs.YtcabnjinfkjnjaaDoor.XH
