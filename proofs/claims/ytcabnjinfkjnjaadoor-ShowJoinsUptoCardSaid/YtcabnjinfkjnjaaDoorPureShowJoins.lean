/- THE LAW ShowJoins, walked by hand: each of its calls by its contract. -/
import Derived.Test.YtcabnjinfkjnjaaDoorPureShow
import Derived.RegionTactic
import Derived.ChangeAlike
namespace Go.Proofs.YtcabnjinfkjnjaaDoor.XH
open Go.RowKit Go.Proofs.YtcabnjinfkjnjaaDoorW.PrintWords Go.Proofs.YtcabnjinfkjnjaaDoorW.PrintLast Go.Proofs.YtcabnjinfkjnjaaDoorW.PrintMore Go.Proofs.YtcabnjinfkjnjaaDoor.X
set_option linter.unusedVariables false
/-- An empty literal. -/
theorem sj_R_lit0 {α : Type} (d : Kd α) (e : Nat) (W : World) (base : Nat) (hb : base ≤ W.heap.size) : d.R e (W.alloc (.cells #[] e)) base (fun _ => True) (.slice (some ⟨W.heap.size, 0, none⟩) 0 0) [] := by
  refine ⟨fun _ _ => trivial, [], ?_, Reps.none _ _⟩
  refine ⟨by simp, .inr ⟨W.heap.size, 0, #[], rfl, hb, heap_alloc_new W _, Nat.le_refl _, Nat.zero_le _, by simp, by simp⟩⟩
theorem sj_fixed_C {α : Type} {d : Kd α} {w W : World} {A : Option Addr} {n : Nat} {xs : List α} (h : (Kd.fixed d w).C W A n xs) (hB : Below w.heap.size w W) : d.C W A n xs := ReadsRow.imp_ h (Below.refl _ _) (fun _ _ hp => d.K_below hB hp)
theorem sj_smallV_iff {h : List (List S61)} {n : Nat} (hs : smallV h n = true) : h.length ≤ n ∧ h.flatten.length ≤ n := by
  unfold smallV at hs
  simp only [Bool.and_eq_true, decide_eq_true_eq] at hs
  exact ⟨hs.1, hs.2.1⟩
theorem sj_histOk_app {a b : List (List S61)} (ha : HistOk a) (hb : HistOk b) (h1 : smallV a 40 = true) (h2 : smallV b 40 = true) : HistOk (a ++ b) := by
  have s1 := sj_smallV_iff h1
  have s2 := sj_smallV_iff h2
  refine ⟨by rw [List.length_append]; omega, by rw [List.flatten_append, List.length_append]; omega, ?_⟩
  intro x hx
  rw [List.flatten_append, List.mem_append] at hx
  rcases hx with h | h
  · exact ha.each x h
  · exact hb.each x h
theorem sj_right_app {a b : List (List S61)} (h1 : smallV a 40 = true) (h2 : smallV b 40 = true) : rightV (a ++ b) = (rightV a && rightV b) := by
  have s1 := sj_smallV_iff h1
  have s2 := sj_smallV_iff h2
  unfold rightV
  have e : (a ++ b).flatten.length = a.flatten.length + b.flatten.length := by rw [List.flatten_append, List.length_append]
  rw [e, List.flatten_append, List.any_append, decide_eq_true (by omega : a.flatten.length + b.flatten.length ≤ 4096), decide_eq_true (by omega : a.flatten.length ≤ 4096), decide_eq_true (by omega : b.flatten.length ≤ 4096)]
  simp [Bool.not_or]
theorem sj_small_app {a b : List (List S61)} (h1 : smallV a 40 = true) (h2 : smallV b 40 = true) : smallV (a ++ b) 80 = true := by
  unfold smallV at *
  simp only [Bool.and_eq_true, decide_eq_true_eq, List.all_eq_true] at h1 h2 ⊢
  refine ⟨by rw [List.length_append]; omega, by rw [List.flatten_append, List.length_append]; omega, ?_⟩
  intro x hx
  rw [List.flatten_append, List.mem_append] at hx
  rcases hx with h | h
  · exact h1.2.2 x h
  · exact h2.2.2 x h
theorem textV_size {h : List (List S61)} (hf : FewOk h) : (textV h).1.size ≤ 2000000000 := by
  unfold textV
  cases rightV h with
  | false => exact Nat.zero_le _
  | true =>
    show (mk (textTo h h.length)).size ≤ _
    rw [mk_size]
    exact few_len hf _ (Nat.le_refl _)
theorem sj_small (A : Option Addr) (c : Nat) (h : List (List S61)) (ho : HistOk h) (w : World) (hC : (Kd.slice 61 k61).C w A h.length h) (hc : h.length ≤ c) : Calls Tryd.prog 27 #[.slice A h.length c, .int .i64 40] w (BoolPost (smallV h 40) w) := by
  obtain ⟨k, hk⟩ := (ev_small h ho 40).rounds
  exact eyewitnessref06_Small.calls k A c h 40 _ w hC hc hk
theorem sj_awake (w : World) (hT : Tabs w) : Calls Tryd.prog 52 #[] w (BoolPost true w) := eyewitnesslaw08_awake.calls true w hT awake08
theorem textTo_left (a b : List (List S61)) : ∀ k, k ≤ a.length → textTo (a ++ b) k = textTo a k
  | 0, _ => rfl
  | k + 1, hk => by
    have e : rd_L4 (a ++ b) (k : Int) = rd_L4 a (k : Int) := by
      rw [L4n _ (by rw [List.length_append]; omega), L4n _ (by omega), List.getElem_append_left (by omega)]
    show textTo (a ++ b) k ++ _ = textTo a k ++ _
    rw [textTo_left a b k (by omega), e]
theorem textTo_right (a b : List (List S61)) : ∀ k, k ≤ b.length → textTo (a ++ b) (a.length + k) = textTo a a.length ++ textTo b k
  | 0, _ => by
    rw [Nat.add_zero, textTo_left a b _ (Nat.le_refl _)]
    simp [textTo]
  | k + 1, hk => by
    have e : rd_L4 (a ++ b) ((a.length + k : Nat) : Int) = rd_L4 b (k : Int) := by
      rw [L4n _ (by rw [List.length_append]; omega), L4n _ (by omega), List.getElem_append_right (by omega)]
      simp
    show textTo (a ++ b) (a.length + k) ++ (lineTo (rd_L4 (a ++ b) ((a.length + k : Nat) : Int)) (rd_L4 (a ++ b) ((a.length + k : Nat) : Int)).length ++ [10]) = textTo a a.length ++ (textTo b k ++ _)
    rw [textTo_right a b k (by omega), e, List.append_assoc]
theorem textTo_app (a b : List (List S61)) : textTo (a ++ b) (a ++ b).length = textTo a a.length ++ textTo b b.length := by
  rw [List.length_append]
  exact textTo_right a b b.length (Nat.le_refl _)
theorem text_cases (a b : List (List S61)) (h1 : smallV a 40 = true) (h2 : smallV b 40 = true) :
    ((textV a).2 = 0 ∧ (textV b).2 = 0 ∧ (textV (a ++ b)).2 = 0 ∧ (textV (a ++ b)).1 = (textV a).1 ++ (textV b).1) ∨ ((textV a).2 = 1 ∧ (textV (a ++ b)).2 = 1) ∨ ((textV a).2 = 0 ∧ (textV b).2 = 1 ∧ (textV (a ++ b)).2 = 1) := by
  have hr := sj_right_app h1 h2
  unfold textV
  rw [hr]
  cases rightV a with
  | false => exact .inr (.inl ⟨rfl, rfl⟩)
  | true =>
    cases rightV b with
    | false => exact .inr (.inr ⟨rfl, rfl, rfl⟩)
    | true =>
      refine .inl ⟨rfl, rfl, rfl, ?_⟩
      show mk (textTo (a ++ b) (a ++ b).length) = mk _ ++ mk _
      rw [mk_append, textTo_app]
set_option maxHeartbeats 1000000 in
set_option maxRecDepth 100000 in
theorem showJoins_yes (A B : Option Addr) (c e : Nat) (a b : List (List S61)) (ha : HistOk a) (hb : HistOk b) (w : World) (hT : Tabs w) (hCa : (Kd.slice 61 k61).C w A a.length a) (hCb : (Kd.slice 61 k61).C w B b.length b) (hca : a.length ≤ c) (hcb : b.length ≤ e) (hsa : smallV a 40 = true) (hsb : smallV b 40 = true) :
    Calls Tryd.prog 18 #[.slice A a.length c, .slice B b.length e] w (BoolPost true w) := by
  have HTb := Lib.hid hT
  have HCa := Lib.hid hCa
  have HCb := Lib.hid hCb
  have HSa := Lib.hid hsa
  have HSb := Lib.hid hsb
  have hcase := text_cases a b hsa hsb
  obtain ⟨sa, ea, hta⟩ : ∃ s e, textV a = (s, e) := ⟨_, _, rfl⟩
  obtain ⟨sb, eb, htb⟩ : ∃ s e, textV b = (s, e) := ⟨_, _, rfl⟩
  obtain ⟨sc, ec, htc⟩ : ∃ s e, textV (a ++ b) = (s, e) := ⟨_, _, rfl⟩
  rw [hta, htb, htc] at hcase
  have hoc : HistOk (a ++ b) := sj_histOk_app ha hb hsa hsb
  have hss : smallV (a ++ b) 80 = true := sj_small_app hsa hsb
  obtain ⟨ab, hab⟩ : ∃ ab, a ++ b = ab := ⟨_, rfl⟩
  rw [hab] at htc hoc hss
  have HAB := Lib.hid hab
  have HCS := Lib.hid hcase
  have hfa := few_of ha 40 (by omega) hsa
  have hfb := few_of hb 40 (by omega) hsb
  have hfc := few_of hoc 80 (by omega) hss
  have hza := textV_size hfa
  have hzb := textV_size hfb
  rw [hta] at hza
  rw [htb] at hzb
  have HZA := Lib.hid hza
  have HZB := Lib.hid hzb
  clear hza hzb
  have HFA := Lib.hid (show_of hfa)
  have HFB := Lib.hid (show_of hfb)
  have HFC := Lib.hid (show_of hfc)
  rw [hta] at HFA
  rw [htb] at HFB
  rw [htc] at HFC
  clear hCa hCb hsa hsb hT hcase hta htb htc hfa hfb hfc hss hoc hab
  go_enter Tryd.func18, Tryd.ntmps18
  have CA := Lib.hid (fun W (hB : Below w.heap.size w W) => sj_small A c a ha W (Kd.C_below HCa.out hB) hca)
  have CB := Lib.hid (fun W (hB : Below w.heap.size w W) => sj_small B e b hb W (Kd.C_below HCb.out hB) hcb)
  rw [HSa.out] at CA
  rw [HSb.out] at CB
  go_wp2_with fail
  refine (CA.out w (Below.refl _ _)).mono ?_
  rintro e1 W1 ⟨rfl, hB1⟩
  have HB1 := Lib.hid hB1
  clear hB1
  go_wp2_with fail
  refine (CB.out W1 HB1.out).mono ?_
  rintro e1 W2 ⟨rfl, hB2⟩
  have HB2 := Lib.hid (below_step HB1.out hB2)
  clear hB2
  go_wp2_with fail
  refine (show_Text.calls A c a sa ea W2 (Kd.C_below HCa.out HB2.out) hca (HTb.out.below HB2.out) HFA.out).mono ?_
  rintro e1 W3 ⟨rfl, hB⟩
  have HB3 := Lib.hid (below_step HB2.out hB)
  clear hB
  go_wp2_with fail
  refine (show_Text.calls B e b sb eb W3 (Kd.C_below HCb.out HB3.out) hcb (HTb.out.below HB3.out) HFB.out).mono ?_
  rintro e1 W4 ⟨rfl, hB⟩
  have HB4 := Lib.hid (below_step HB3.out hB)
  clear hB
  have hB4 := HB4.out.size
  have hla := (ha.sessions)
  have hlb := (hb.sessions)
  go_wp2_with (first
    | ((with_reducible refine gate_builtin (b := .append) (xs := #[.tmp 31, .tmp 32]) rfl ?_); refine Kd.R_append_rows (Kd.fixed (Kd.slice 61 k61) w) (Rr := (Kd.slice 61 k61).K w) (w0 := w) w.heap.size rfl (.tmp 31) (.tmp 32) 49 51 (.slice none 0 0) 24 rfl Tryd.underlying49 info51 rfl (Nat.zero_lt_one) (by decide) _ [] a A a.length c (fun _ => True) (fun _ => False) rfl rfl (sj_R_lit0 _ 51 W4 w.heap.size hB4) (ReadsRow.imp_ HCa.out (below_alloc HB4.out _) (fun _ _ h => h)) (fun x cs hx => hx) (fun _ hf => hf.elim) (fun _ _ => trivial) (below_alloc HB4.out _) (by simp; omega) (by simp; omega) ?_; intro v1 w3 hR hB hg hat; have HR1 := Lib.hid hR; have HBw3 := Lib.hid hB; clear hR hB hg hat)
    | ((with_reducible refine gate_builtin (b := .append) (xs := #[.tmp 33, .tmp 34]) rfl ?_); refine Kd.R_append_rows (Kd.fixed (Kd.slice 61 k61) w) (Rr := (Kd.slice 61 k61).K w) (w0 := w) w.heap.size rfl (.tmp 33) (.tmp 34) 49 51 (.slice none 0 0) 24 rfl Tryd.underlying49 info51 rfl (Nat.zero_lt_one) (by decide) _ ([] ++ a) b B b.length e (fun _ => True) (fun _ => False) rfl rfl HR1.out (ReadsRow.imp_ HCb.out HBw3.out (fun _ _ h => h)) (fun x cs hx => hx) (fun _ hf => hf.elim) (fun _ _ => trivial) HBw3.out HBw3.out.size (by simp; omega) ?_; intro v2 W5 hR hB hg hat; have hRA : (Kd.fixed (Kd.slice 61 k61) w).R 51 W5 w.heap.size (fun _ => True) v2 (a ++ b) := hR; rw [HAB.out] at hRA; obtain ⟨AC, cc, hv2⟩ := Kd.V_slice (Kd.R_V (base' := 0) hRA); subst hv2; have HR2 := Lib.hid hRA; have HB5 := Lib.hid hB; clear hR hRA hB hg hat))
  have hVA : Kd.V (Kd.fixed (Kd.slice 61 k61) w) 51 W5 w.heap.size (fun _ => True) (.slice AC ab.length cc) ab := Kd.R_V HR2.out
  obtain ⟨-, hcc, hCf⟩ := Kd.V_reads' hVA
  have HCc := Lib.hid (sj_fixed_C hCf HB5.out)
  clear hVA hCf
  refine (show_Text.calls AC cc ab sc ec W5 HCc.out hcc (HTb.out.below HB5.out) HFC.out).mono ?_
  rintro e1 W6 ⟨rfl, hB⟩
  have HB6 := Lib.hid (below_step HB5.out hB)
  clear hB
  go_wp2_with fail
  refine (sj_awake W6 (HTb.out.below HB6.out)).mono ?_
  rintro e1 W7 ⟨rfl, hB⟩
  have HB7 := Lib.hid (below_step HB6.out hB)
  clear hB
  have hcase := HCS.out
  rcases hcase with ⟨h1, h2, h3, h4⟩ | ⟨h1, h2⟩ | ⟨h1, h2, h3⟩
  · have hza : sa.size ≤ 2000000000 := HZA.out
    have hzb : sb.size ≤ 2000000000 := HZB.out
    subst h1 h2 h3 h4
    go_wp2_with fail
    go_ret
    exact ⟨rfl, HB7.out⟩
  · subst h1 h2
    go_wp2_with fail
    go_ret
    exact ⟨rfl, HB7.out⟩
  · subst h1 h2 h3
    go_wp2_with fail
    go_ret
    exact ⟨rfl, HB7.out⟩
set_option maxHeartbeats 1000000 in
set_option maxRecDepth 100000 in
theorem showJoins_no1 (A B : Option Addr) (c e : Nat) (a b : List (List S61)) (ha : HistOk a) (w : World) (hT : Tabs w) (hCa : (Kd.slice 61 k61).C w A a.length a) (hca : a.length ≤ c) (hsa : smallV a 40 = false) :
    Calls Tryd.prog 18 #[.slice A a.length c, .slice B b.length e] w (BoolPost true w) := by
  have HTb := Lib.hid hT
  have HCa := Lib.hid hCa
  have HSa := Lib.hid hsa
  clear hCa hsa hT
  go_enter Tryd.func18, Tryd.ntmps18
  have CA := Lib.hid (fun W (hB : Below w.heap.size w W) => sj_small A c a ha W (Kd.C_below HCa.out hB) hca)
  rw [HSa.out] at CA
  go_wp2_with fail
  refine (CA.out w (Below.refl _ _)).mono ?_
  rintro e1 W1 ⟨rfl, hB1⟩
  have HB1 := Lib.hid hB1
  clear hB1
  go_wp2_with fail
  refine (sj_awake W1 (HTb.out.below HB1.out)).mono ?_
  rintro e1 W2 ⟨rfl, hB⟩
  have HB2 := Lib.hid (below_step HB1.out hB)
  clear hB
  go_wp2_with fail
  go_ret
  exact ⟨rfl, HB2.out⟩
set_option maxHeartbeats 1000000 in
set_option maxRecDepth 100000 in
theorem showJoins_no2 (A B : Option Addr) (c e : Nat) (a b : List (List S61)) (ha : HistOk a) (hb : HistOk b) (w : World) (hT : Tabs w) (hCa : (Kd.slice 61 k61).C w A a.length a) (hCb : (Kd.slice 61 k61).C w B b.length b) (hca : a.length ≤ c) (hcb : b.length ≤ e) (hsa : smallV a 40 = true) (hsb : smallV b 40 = false) :
    Calls Tryd.prog 18 #[.slice A a.length c, .slice B b.length e] w (BoolPost true w) := by
  have HTb := Lib.hid hT
  have HCa := Lib.hid hCa
  have HCb := Lib.hid hCb
  have HSa := Lib.hid hsa
  have HSb := Lib.hid hsb
  clear hCa hCb hsa hsb hT
  go_enter Tryd.func18, Tryd.ntmps18
  have CA := Lib.hid (fun W (hB : Below w.heap.size w W) => sj_small A c a ha W (Kd.C_below HCa.out hB) hca)
  have CB := Lib.hid (fun W (hB : Below w.heap.size w W) => sj_small B e b hb W (Kd.C_below HCb.out hB) hcb)
  rw [HSa.out] at CA
  rw [HSb.out] at CB
  go_wp2_with fail
  refine (CA.out w (Below.refl _ _)).mono ?_
  rintro e1 W1 ⟨rfl, hB1⟩
  have HB1 := Lib.hid hB1
  clear hB1
  go_wp2_with fail
  refine (CB.out W1 HB1.out).mono ?_
  rintro e1 W2 ⟨rfl, hB2⟩
  have HB2 := Lib.hid (below_step HB1.out hB2)
  clear hB2
  go_wp2_with fail
  refine (sj_awake W2 (HTb.out.below HB2.out)).mono ?_
  rintro e1 W3 ⟨rfl, hB⟩
  have HB3 := Lib.hid (below_step HB2.out hB)
  clear hB
  go_wp2_with fail
  go_ret
  exact ⟨rfl, HB3.out⟩
theorem showJoins_any (A B : Option Addr) (c e : Nat) (a b : List (List S61)) (ha : HistOk a) (hb : HistOk b) (w : World) (hT : Tabs w) (hCa : (Kd.slice 61 k61).C w A a.length a) (hCb : (Kd.slice 61 k61).C w B b.length b) (hca : a.length ≤ c) (hcb : b.length ≤ e) :
    Calls Tryd.prog 18 #[.slice A a.length c, .slice B b.length e] w (BoolPost true w) := by
  cases hsa : smallV a 40 with
  | false => exact showJoins_no1 A B c e a b ha w hT hCa hca hsa
  | true =>
    cases hsb : smallV b 40 with
    | false => exact showJoins_no2 A B c e a b ha hb w hT hCa hCb hca hcb hsa hsb
    | true => exact showJoins_yes A B c e a b ha hb w hT hCa hCb hca hcb hsa hsb
theorem showJoins_walk (A : Option Addr) (c : Nat) (a : List (List S61)) (ha : HistOk a) (B : Option Addr) (e : Nat) (b : List (List S61)) (hb : HistOk b) (w : World) (hT : Tabs w) (hCa : (Kd.slice 61 k61).C w A a.length a) (hca : a.length ≤ c) (hCb : (Kd.slice 61 k61).C w B b.length b) (hcb : b.length ≤ e) :
    Calls Tryd.prog 18 #[.slice A a.length c, .slice B b.length e] w fun e w' => e = .returned (.bool true) ∧ Below w.heap.size w w' := showJoins_any A B c e a b ha hb w hT hCa hCb hca hcb
end Go.Proofs.YtcabnjinfkjnjaaDoor.XH
