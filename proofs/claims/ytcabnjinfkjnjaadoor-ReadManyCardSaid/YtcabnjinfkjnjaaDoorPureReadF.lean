/- THE PLAIN LAWS OF READ, sixth part: ReadRight answers true. -/
import Derived.Test.YtcabnjinfkjnjaaDoorPureReadE
import Derived.Test.YtcabnjinfkjnjaaDoorXHx14
namespace Go.Proofs.YtcabnjinfkjnjaaDoor.XH
open Go.RowKit Go.Proofs.YtcabnjinfkjnjaaDoorW.PrintWords Go.Proofs.YtcabnjinfkjnjaaDoorW.PrintLast Go.Proofs.YtcabnjinfkjnjaaDoor.X
set_option linter.unusedVariables false

theorem runs_nil0 {out l n r R} (h : Runs out l n r R) (hr : r = []) (hl : l = []) : R = .ok out n := by
  cases h with
  | done => rfl
  | cut _ _ _ h => exact absurd hl h
  | line => cases hr
  | bad => cases hr
  | op0 => cases hr
  | no0 => cases hr
  | op1 => cases hr
  | no1 => cases hr
theorem ok_ne {out l n q R h m} (hR : Runs out l n q R) (hl : l ≠ []) (e : R = .ok h m) : ∃ c q', q = c :: q' := by
  cases q with
  | nil => rw [runs_cut hR rfl hl] at e; cases e
  | cons c q' => exact ⟨c, q', rfl⟩
theorem runs_good {out l n r R} (hR : Runs out l n r R) : ∀ (h : List (List S61)) (m : Nat), R = .ok h m → (∀ o ∈ out.flatten ++ l, goodN o.f1) → (out.flatten ++ l).length = n → n ≤ 4096 → (∀ o ∈ h.flatten, goodN o.f1) ∧ h.flatten.length = m ∧ m ≤ 4096 := by
  induction hR with
  | done out n => intro h m e h1 h2 h3; cases e; rw [List.append_nil] at h1 h2; exact ⟨h1, h2, h3⟩
  | cut => intro h m e; cases e
  | line out l n r R h ih =>
    intro h m e h1 h2 h3
    refine ih h m e ?_ ?_ h3
    · rw [List.append_nil, List.flatten_concat]; exact h1
    · rw [List.append_nil, List.flatten_concat]; exact h2
  | bad => intro h m e; cases e
  | op0 out n c r x q R h1 ho h ih =>
    intro hh m e h2 h3 h4
    obtain ⟨d, q', rfl⟩ := ok_ne h (by simp) e
    obtain ⟨hn, a, pre, hl, ha, hx, ht⟩ := opL_cut ho
    refine ih hh m e ?_ ?_ (by omega)
    · intro o ho
      rcases List.mem_append.1 ho with ho | ho
      · exact h2 o (List.mem_append_left _ ho)
      · rw [List.mem_singleton] at ho; rw [ho]; exact hx
    · simp only [List.length_append, List.length_nil, List.length_cons] at h3 ⊢; omega
  | no0 => intro h m e; cases e
  | op1 out l n r x q R hl ho h ih =>
    intro hh m e h2 h3 h4
    obtain ⟨d, q', rfl⟩ := ok_ne h (by simp) e
    obtain ⟨hn, a, pre, hl, ha, hx, ht⟩ := opL_cut ho
    refine ih hh m e ?_ ?_ (by omega)
    · intro o ho
      rw [← List.append_assoc] at ho
      rcases List.mem_append.1 ho with ho | ho
      · exact h2 o ho
      · rw [List.mem_singleton] at ho; rw [ho]; exact hx
    · rw [← List.append_assoc, List.length_append, h3]; rfl
  | no1 => intro h m e; cases e
theorem tail_pre {d : UInt8} {q' pq : List UInt8} (h : d :: q' = pq ++ [10]) : Tail d pq := by
  cases pq with
  | nil => exact .inl rfl
  | cons a p => exact .inr ⟨p, by rw [(List.cons.inj h).1]⟩
/-- A text that is read ends with a line's end; and without its last byte it is not read as the same. -/
theorem runs_last {out l n r R} (hR : Runs out l n r R) : ∀ (h : List (List S61)) (m : Nat), R = .ok h m → r ≠ [] → ∃ pre, r = pre ++ [10] ∧ ∃ R', Runs out l n pre R' ∧ ∀ g m', R' = .ok g m' → g.length + 1 = h.length := by
  induction hR with
  | done out n => intro h m e h1; exact absurd rfl h1
  | cut => intro h m e; cases e
  | line out l n r R h ih =>
    intro hh m e h1
    cases r with
    | nil =>
      have := runs_nil0 h rfl rfl
      rw [this] at e
      cases e
      refine ⟨[], rfl, ?_⟩
      by_cases hl : l = []
      · subst hl
        refine ⟨_, .done out n, fun g m' e => ?_⟩
        cases e
        rw [List.length_append]; rfl
      · exact ⟨_, .cut out l n hl, fun g m' e => by cases e⟩
    | cons c r =>
      obtain ⟨pre, hp, R', hR', hg⟩ := ih hh m e (by simp)
      exact ⟨10 :: pre, by rw [hp]; rfl, R', .line out l n pre R' hR', hg⟩
  | bad => intro h m e; cases e
  | op0 out n c r x q R h1 ho h ih =>
    intro hh m e h2
    obtain ⟨d, q', rfl⟩ := ok_ne h (by simp) e
    obtain ⟨hn, a, pre, hl, ha, hx, ht⟩ := opL_cut ho
    obtain ⟨pq, hp, R', hR', hg⟩ := ih hh m e (by simp)
    obtain ⟨rfl, hr⟩ := List.cons.inj hl
    refine ⟨c :: (pre ++ pq), by rw [hr, hp]; simp, R', .op0 out n c (pre ++ pq) x pq R' h1 (ht pq (tail_pre hp) n hn) hR', hg⟩
  | no0 => intro h m e; cases e
  | op1 out l n r x q R hl ho h ih =>
    intro hh m e h2
    obtain ⟨d, q', rfl⟩ := ok_ne h (by simp) e
    obtain ⟨hn, a, pre, hr, ha, hx, ht⟩ := opL_cut ho
    obtain ⟨pq, hp, R', hR', hg⟩ := ih hh m e (by simp)
    refine ⟨32 :: a :: (pre ++ pq), by rw [hr, hp]; simp, R', .op1 out l n (a :: (pre ++ pq)) x pq R' hl (ht pq (tail_pre hp) n hn) hR', hg⟩
  | no1 => intro h m e; cases e
theorem valL_no {w nm l q e} (h : valL w nm l = .no q e) : (e = 2 ∨ e = 3) ∧ q.length ≤ l.length := by
  unfold valL at h
  split at h
  · cases h
  · rename_i hv
    obtain ⟨rfl, rfl⟩ := Res.no.inj h
    exact ⟨(getV_err _).resolve_left hv, Nat.le_refl _⟩
theorem nameL_no {w l q e} (h : nameL w l = .no q e) : (e = 2 ∨ e = 3) ∧ q.length ≤ l.length := by
  unfold nameL at h
  split at h
  · obtain ⟨rfl, rfl⟩ := Res.no.inj h
    exact ⟨.inl rfl, Nat.le_refl _⟩
  · have hd : (l.drop (nameLen l)).length ≤ l.length := by rw [List.length_drop]; omega
    split at h
    · obtain ⟨rfl, rfl⟩ := Res.no.inj h
      exact ⟨.inl rfl, Nat.zero_le _⟩
    · rename_i c r hr
      rw [hr] at hd
      split at h
      · have := valL_no h; simp only [List.length_cons] at hd; exact ⟨this.1, by omega⟩
      · obtain ⟨rfl, rfl⟩ := Res.no.inj h
        exact ⟨.inl rfl, hd⟩
theorem colonL_no {w l q e} (h : colonL w l = .no q e) : (e = 2 ∨ e = 3) ∧ q.length ≤ l.length := by
  cases l with
  | nil => obtain ⟨rfl, rfl⟩ := Res.no.inj h; exact ⟨.inl rfl, Nat.le_refl _⟩
  | cons c r =>
    simp only [colonL] at h
    split at h
    · have := nameL_no h; simp only [List.length_cons]; exact ⟨this.1, by omega⟩
    · obtain ⟨rfl, rfl⟩ := Res.no.inj h; exact ⟨.inl rfl, Nat.le_refl _⟩
theorem opL_no {n l q e} (h : opL n l = .no q e) : (e = 2 ∨ e = 3) ∧ q.length ≤ l.length := by
  unfold opL at h
  split at h
  · obtain ⟨rfl, rfl⟩ := Res.no.inj h; exact ⟨.inr rfl, Nat.le_refl _⟩
  · cases l with
    | nil => obtain ⟨rfl, rfl⟩ := Res.no.inj h; exact ⟨.inl rfl, Nat.le_refl _⟩
    | cons c r =>
      simp only [oneL] at h
      split at h
      · have := colonL_no h; simp only [List.length_cons]; exact ⟨this.1, by omega⟩
      · split at h
        · have := colonL_no h; simp only [List.length_cons]; exact ⟨this.1, by omega⟩
        · obtain ⟨rfl, rfl⟩ := Res.no.inj h; exact ⟨.inl rfl, Nat.le_refl _⟩
theorem runs_no {out l n r R} (hR : Runs out l n r R) : ∀ (q : List UInt8) (e : Int), R = .no q e → (e = 2 ∨ e = 3) ∧ q.length ≤ r.length := by
  induction hR with
  | done out n => intro q e h; cases h
  | cut => intro q e h; cases h; exact ⟨.inl rfl, Nat.le_refl _⟩
  | line out l n r R h ih => intro q e hh; have := ih q e hh; simp only [List.length_cons]; exact ⟨this.1, by omega⟩
  | bad => intro q e h; cases h; exact ⟨.inl rfl, Nat.le_refl _⟩
  | op0 out n c r x q R h1 ho h ih => intro q' e hh; have := ih q' e hh; have := opL_len ho; exact ⟨(ih q' e hh).1, by omega⟩
  | no0 out n c r q e h1 ho => intro q' e' h; cases h; exact opL_no ho
  | op1 out l n r x q R hl ho h ih => intro q' e hh; have := ih q' e hh; have := opL_len ho; simp only [List.length_cons]; exact ⟨(ih q' e hh).1, by omega⟩
  | no1 out l n r q e hl ho => intro q' e' h; cases h; have := opL_no ho; simp only [List.length_cons]; exact ⟨this.1, by omega⟩

/-! ### Flat, Name, Right -/
theorem flat_l0 (h : List (List S61)) (hl : h.length ≤ 4000000) (hf : h.flatten.length ≤ 4000000) : ∀ (d i k : Nat), d = h.length - i → i ≤ h.length → d < k → eyewitnessref06_Flat.l0 k h (h.take i).flatten (i : Int) = some h.flatten := by
  intro d
  induction d with
  | zero =>
    intro i k hd hi hk
    obtain ⟨k, rfl⟩ : ∃ q, k = q + 1 := ⟨k - 1, by omega⟩
    rw [eyewitnessref06_Flat.l0, if_neg (by omega), List.take_of_length_le (by omega)]
  | succ d ih =>
    intro i k hd hi hk
    obtain ⟨k, rfl⟩ : ∃ q, k = q + 1 := ⟨k - 1, by omega⟩
    have hlt : i < h.length := by omega
    have hs : (h.take (i + 1)).flatten = (h.take i).flatten ++ h[i] := by rw [List.take_add_one, List.getElem?_eq_getElem hlt, Option.toList_some, List.flatten_concat]
    have hle : ((h.take i).flatten ++ h[i]).length ≤ h.flatten.length := by
      rw [← hs]
      conv => rhs; rw [← List.take_append_drop (i + 1) h, List.flatten_append, List.length_append]
      omega
    rw [List.length_append] at hle
    rw [eyewitnessref06_Flat.l0, if_pos (by omega), if_pos (by omega), rd_L4_nat h i hlt, if_pos (by omega), succ_val i (by omega), ← hs]
    exact ih (i + 1) k (by omega) (by omega) (by omega)
theorem flat_ok (h : List (List S61)) (hl : h.length ≤ 4000000) (hf : h.flatten.length ≤ 4000000) (k : Nat) (hk : h.length < k) : eyewitnessref06_Flat.f k h = some h.flatten := flat_l0 h hl hf _ 0 k rfl (Nat.zero_le _) (by omega)
theorem name_l0 (v : ByteArray) (hv : goodN v) : ∀ (d i k : Nat), d = v.size - i → i ≤ v.size → d < k → eyewitnessref06_Name.l0 k v (i : Int) = some true := by
  obtain ⟨h1, h8, hlow⟩ := hv
  intro d
  induction d with
  | zero =>
    intro i k hd hi hk
    obtain ⟨k, rfl⟩ : ∃ q, k = q + 1 := ⟨k - 1, by omega⟩
    rw [eyewitnessref06_Name.l0, if_neg (by omega), if_pos (by omega), decide_eq_true (by omega)]
  | succ d ih =>
    intro i k hd hi hk
    obtain ⟨k, rfl⟩ : ∃ q, k = q + 1 := ⟨k - 1, by omega⟩
    have hlt : i < v.data.toList.length := by rw [← size_list]; omega
    have hx := hlow _ (List.getElem_mem hlt)
    simp only [isLow, Bool.and_eq_true, decide_eq_true_eq] at hx
    rw [eyewitnessref06_Name.l0, if_pos (by omega), if_pos (by omega), bt_list v i hlt, if_neg (by omega), if_neg (by omega), succ_val i (by omega)]
    exact ih (i + 1) k (by omega) (by omega) (by omega)
theorem right_l0 (l : List S61) (h4 : l.length ≤ 4096) (hg : ∀ o ∈ l, goodN o.f1) : ∀ (d i k : Nat), d = l.length - i → i ≤ l.length → d + 20 ≤ k → eyewitnessref06_Right.l0 k l (i : Int) = some true := by
  intro d
  induction d with
  | zero =>
    intro i k hd hi hk
    obtain ⟨k, rfl⟩ : ∃ q, k = q + 1 := ⟨k - 1, by omega⟩
    rw [eyewitnessref06_Right.l0, if_neg (by omega), decide_eq_true (by omega)]
  | succ d ih =>
    intro i k hd hi hk
    obtain ⟨k, rfl⟩ : ∃ q, k = q + 1 := ⟨k - 1, by omega⟩
    have hlt : i < l.length := by omega
    have hx := hg _ (List.getElem_mem hlt)
    have hrd : rd_T61 l (i : Int) = l[i] := by
      unfold rd_T61
      rw [Int.toNat_natCast, List.getD_eq_getElem?_getD, List.getElem?_eq_getElem hlt]
      rfl
    have h8 := hx.2.1
    rw [eyewitnessref06_Right.l0, if_pos (by omega), if_pos (by omega), hrd]
    unfold eyewitnessref06_Name.f
    have := name_l0 _ hx _ 0 k rfl (Nat.zero_le _) (by omega)
    rw [show ((0 : Nat) : Int) = 0 from rfl] at this
    rw [this]
    simp only [Option.bind_some]
    rw [if_pos trivial, succ_val i (by omega)]
    exact ih (i + 1) k (by omega) (by omega) (by omega)
theorem right_ok (h : List (List S61)) (hl : h.length ≤ 4000000) (h4 : h.flatten.length ≤ 4096) (hg : ∀ o ∈ h.flatten, goodN o.f1) : ∃ k, eyewitnessref06_Right.f k h = some true := by
  refine ⟨h.length + 5000, ?_⟩
  unfold eyewitnessref06_Right.f
  rw [flat_ok h hl (by omega) _ (by omega)]
  simp only [Option.bind_some]
  have := right_l0 _ h4 hg _ 0 (h.length + 5000) rfl (Nat.zero_le _) (by omega)
  rw [show ((0 : Nat) : Int) = 0 from rfl] at this
  exact this
theorem readRight_pure : eyewitnesslaw07_ReadRight.Pure := by
  intro s _
  obtain ⟨k0, h0⟩ := awake_true
  by_cases hs : s.size ≤ 1000
  · have hl : s.data.toList.length = s.size := (size_list s).symm
    obtain ⟨R, hR⟩ := runs_ex (s.data.toList.length + 1) s.data.toList [] [] 0 (by omega)
    obtain ⟨k1, h1⟩ := read_text s (by omega) hR
    cases R with
    | no q e =>
      have hno := runs_no hR q e rfl
      refine ⟨k0 + k1, ?_⟩
      unfold eyewitnesslaw07_ReadRight.f
      rw [if_neg (by omega), up_le (fun k => read_Text.mono s k) h1 _ (by omega)]
      simp only [Option.bind_some, ansT]
      rw [if_neg (by omega), up_le (fun k => eyewitnesslaw07_awake.mono k) h0 _ (by omega)]
      simp only [Option.bind_some]
      rw [if_pos trivial, if_pos (by rfl), if_pos (by omega), if_pos (by omega)]
      rcases hno.1 with h | h
      · rw [if_pos h]
      · rw [if_neg (by omega), h]; rfl
    | ok h m =>
      have hsz := runs_size hR s.size h m rfl (fun x hx => by cases hx) (by simp only [List.length_nil]; omega)
      have hgood := runs_good hR h m rfl (fun o ho => by cases ho) rfl (by omega)
      have hlen : h.length ≤ s.size := by have := hsz.2; simp only [List.length_nil] at this; omega
      by_cases hz : s.size = 0
      · refine ⟨k0 + k1, ?_⟩
        unfold eyewitnesslaw07_ReadRight.f
        rw [if_neg (by omega), up_le (fun k => read_Text.mono s k) h1 _ (by omega)]
        simp only [Option.bind_some, ansT]
        rw [if_pos trivial, if_pos (by omega), up_le (fun k => eyewitnesslaw07_awake.mono k) h0 _ (by omega)]
        simp only [Option.bind_some]
        rw [if_pos trivial, show h.length = 0 by omega]
        rfl
      · obtain ⟨pre, hp, R', hR', hg⟩ := runs_last hR h m rfl (fun e => by rw [e] at hl; simp only [List.length_nil] at hl; omega)
        have hplen : pre.length = s.size - 1 := by rw [hp, List.length_append] at hl; simp only [List.length_cons, List.length_nil] at hl; omega
        have hcut : (s.extract 0 (s.size - 1)).data.toList = pre := by
          rw [Lib.extract_data, List.drop_zero, hp, Nat.sub_zero, ← hplen, List.take_left]
        have hcs : (s.extract 0 (s.size - 1)).size ≤ 1000 := by rw [ByteArray.size_extract]; omega
        obtain ⟨k2, h2⟩ := read_text (s.extract 0 (s.size - 1)) (by omega) (R := R') (by rw [hcut]; exact hR')
        obtain ⟨k3, h3⟩ := right_ok h (by omega) (by omega) hgood.1
        have hb : bt s ((s.size - 1 : Nat) : Int) = 10 := by
          rw [bt_list s (s.size - 1) (by omega)]
          have : s.data.toList[s.size - 1]'(by omega) = 10 := by
            have h5 : s.data.toList[s.size - 1]? = some 10 := by rw [hp, ← hplen]; simp
            rw [List.getElem?_eq_getElem (by omega)] at h5
            exact Option.some.inj h5
          rw [this]; rfl
        have hw : wrap64 ((s.size : Int) - 1) = ((s.size - 1 : Nat) : Int) := by rw [w64 (by omega) (by omega)]; omega
        have g1 := up_le (fun k => read_Text.mono s k) h1 (k0 + k1 + k2 + k3) (by omega)
        have g2 := up_le (fun k => read_Text.mono _ k) h2 (k0 + k1 + k2 + k3) (by omega)
        have g0 := up_le (fun k => eyewitnesslaw07_awake.mono k) h0 (k0 + k1 + k2 + k3) (by omega)
        have g3 := up_le (fun k => eyewitnessref06_Right.mono _ k) h3 (k0 + k1 + k2 + k3) (by omega)
        have q1 : (0 : Int) ≤ ((s.size - 1 : Nat) : Int) := by omega
        have q2 : ((s.size - 1 : Nat) : Int) ≤ (s.size : Int) := by omega
        have q3 : ((s.size - 1 : Nat) : Int) < (s.size : Int) := by omega
        have q4 : ¬ (s.size : Int) > 1000 := by omega
        have q5 : ¬ (s.size : Int) = 0 := by omega
        refine ⟨k0 + k1 + k2 + k3, ?_⟩
        unfold eyewitnesslaw07_ReadRight.f
        rw [if_neg q4, g1]
        simp only [Option.bind_some, ansT]
        rw [if_pos trivial, if_neg q5, hw, if_pos q1, if_pos q2, Int.toNat_natCast, g2]
        simp only [Option.bind_some]
        rw [g0]
        simp only [Option.bind_some]
        rw [if_pos trivial, if_pos trivial, g3]
        simp only [Option.bind_some]
        rw [if_pos trivial, if_pos q3, hb, if_pos rfl]
        clear hw
        cases R' with
        | ok g m' =>
          have := hg g m' rfl
          simp only [ansT]
          rw [if_pos trivial, w64 (by omega) (by omega)]
          congr 1
          rw [beq_iff_eq]
          omega
        | no q e =>
          have hno := runs_no hR' q e rfl
          exact if_neg (show ¬ e = 0 by omega)
  · refine ⟨k0, ?_⟩
    unfold eyewitnesslaw07_ReadRight.f
    rw [if_pos (by omega), h0]
    rfl
end Go.Proofs.YtcabnjinfkjnjaaDoor.XH
