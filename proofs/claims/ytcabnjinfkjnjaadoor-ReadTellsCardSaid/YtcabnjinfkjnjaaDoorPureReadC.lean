/- THE PLAIN LAWS OF READ, third part: the reference's Text follows the same relation. -/
import Derived.Test.YtcabnjinfkjnjaaDoorPureReadB
namespace Go.Proofs.YtcabnjinfkjnjaaDoor.XH
open Go.RowKit Go.Proofs.YtcabnjinfkjnjaaDoorW.PrintWords Go.Proofs.YtcabnjinfkjnjaaDoorW.PrintLast Go.Proofs.YtcabnjinfkjnjaaDoor.X
set_option linter.unusedVariables false

def ToldR (s : ByteArray) (out : Option (Bool × ByteArray × Int × Int × Int)) : Res S61 → Prop
  | .ok x rest => rest.length ≤ s.size ∧ s.data.toList.drop (s.size - rest.length) = rest ∧ out = some (x.f0, x.f1, x.f2, ((s.size - rest.length : Nat) : Int), 0)
  | .no rest e => rest.length ≤ s.size ∧ (e = 2 ∨ e = 3) ∧ out = some (false, ⟨#[]⟩, 0, ((s.size - rest.length : Nat) : Int), e)
theorem one_j4t (s : ByteArray) (i : Int) (w : Bool) (n : ByteArray) (v : Int) (k : Nat) : eyewitnessref07_one.j4 (k + 1) s i true w n v = some (false, ⟨#[]⟩, 0, i, 2) := by
  rw [eyewitnessref07_one.j4, if_pos rfl]
theorem one_cut {s : ByteArray} {i : Nat} {r : List UInt8} (h2 : Suf s i r) (hs : s.size ≤ 1000000) (k : Nat) (hk : s.size + 20 ≤ k) :
    eyewitnessref05_Get.f k (s.extract i (i + spanL r)) = some (getV (r.take (spanL r))) := by
  have hx : (s.extract i (i + spanL r)).data.toList = r.take (spanL r) := by rw [Lib.extract_data, h2.eq, show i + spanL r - i = spanL r from by omega]
  have hsz : (s.extract i (i + spanL r)).size ≤ s.size := by rw [ByteArray.size_extract]; omega
  have hg := get_ref (s.extract i (i + spanL r)) (by omega) k (by omega)
  rw [hx] at hg
  exact hg
theorem one_j4e (s : ByteArray) (i : Nat) (hs : s.size ≤ 1000000) (m : Nat) (hm : i + 1 + m ≤ s.size) (w : Bool) (n : ByteArray) (v : Int) (k : Nat) (g : Int × Int)
    (hsp : eyewitnessref05_Span.f k s ((i + 1 : Nat) : Int) = some (m : Int)) (hg : eyewitnessref05_Get.f k (s.extract (i + 1) (i + 1 + m)) = some g) :
    eyewitnessref07_one.j4 (k + 1) s i false w n v = if g.2 = 0 then some (w, n, g.1, ((i + 1 + m : Nat) : Int), 0) else some (false, ⟨#[]⟩, 0, ((i + 1 : Nat) : Int), g.2) := by
  have q1 : (0 : Int) ≤ ((i + 1 : Nat) : Int) := by omega
  have q2 : ((i + 1 : Nat) : Int) ≤ ((i + 1 + m : Nat) : Int) := by omega
  have q3 : ((i + 1 + m : Nat) : Int) ≤ (s.size : Int) := by omega
  have hw : wrap64 (((i + 1 : Nat) : Int) + (m : Int)) = ((i + 1 + m : Nat) : Int) := by rw [w64 (by omega) (by omega)]; omega
  have hs1 : wrap64 ((i : Int) + 1) = ((i + 1 : Nat) : Int) := succ_val i (by omega)
  rw [eyewitnessref07_one.j4, if_neg Bool.false_ne_true, hs1, hsp, Option.bind_some, hw, if_pos q1, if_pos q2, if_pos q3, Int.toNat_natCast, Int.toNat_natCast, hg, Option.bind_some]
theorem one_j4 {s : ByteArray} {i : Nat} {c : UInt8} {r : List UInt8} (h : Suf s i (c :: r)) (hs : s.size ≤ 1000000) (hc : c = 61) (w : Bool) (n : ByteArray) (v : Int) (k : Nat) (hk : s.size + 22 ≤ k) :
    ToldR s (eyewitnessref07_one.j4 k s i false w n v) (valL w n r) := by
  obtain ⟨k, rfl⟩ : ∃ q, k = q + 1 := ⟨k - 1, by omega⟩
  have hlt := h.lt
  have h2 := h.tail
  have h5 := h2.drop (spanL r) (spanL_le r)
  have hle5 := h5.le
  have hsp := span_ref s ((i + 1 : Nat) : Int) (by omega) k (by omega)
  rw [h2.span] at hsp
  rw [one_j4e s i hs (spanL r) hle5 w n v k _ hsp (one_cut h2 hs k (by omega))]
  unfold valL
  by_cases hv : (getV (r.take (spanL r))).2 = 0
  · rw [if_pos hv, if_pos hv]
    refine ⟨h5.at.2, by rw [h5.at.1]; exact h5.eq, ?_⟩
    rw [h5.at.1]
  · rw [if_neg hv, if_neg hv]
    exact ⟨h2.at.2, (getV_err _).resolve_left hv, by rw [h2.at.1]⟩
theorem one_l0 (s : ByteArray) (hs : s.size ≤ 1000000) (i : Nat) (w : Bool) (n : ByteArray) (v : Int) : ∀ (d m k : Nat) (r : List UInt8), d = 8 - m → m ≤ 8 → d < k → Suf s (i + m) r →
    ∃ k', k ≤ k' + d + 1 ∧ eyewitnessref07_one.l0 k s i (m : Nat) w n v = eyewitnessref07_one.j3 k' s i ((m + ((r.take (8 - m)).takeWhile isLow).length : Nat) : Int) w n v := by
  intro d
  induction d with
  | zero =>
    intro m k r hd hm hk hS
    obtain ⟨k, rfl⟩ : ∃ q, k = q + 1 := ⟨k - 1, by omega⟩
    have hm8 : m = 8 := by omega
    subst hm8
    refine ⟨k, by omega, ?_⟩
    rw [eyewitnessref07_one.l0, if_neg (by omega)]
    simp
  | succ d ih =>
    intro m k r hd hm hk hS
    obtain ⟨k, rfl⟩ : ∃ q, k = q + 1 := ⟨k - 1, by omega⟩
    have hle := hS.le
    have hw : wrap64 ((i : Int) + (m : Nat)) = ((i + m : Nat) : Int) := by rw [w64 (by omega) (by omega)]; omega
    rw [eyewitnessref07_one.l0, if_pos (by omega), hw]
    cases r with
    | nil =>
      have := hS.nil
      refine ⟨k, by omega, ?_⟩
      rw [if_neg (show ¬ ((i + m : Nat) : Int) < s.size by omega), List.take_nil, List.takeWhile_nil, List.length_nil, Nat.add_zero]
    | cons c r =>
      have hlt := hS.lt
      rw [if_pos (by omega), if_pos (by omega), hS.bt]
      rw [show 8 - m = (7 - m) + 1 from by omega, List.take_succ_cons, List.takeWhile_cons]
      by_cases h1 : 97 ≤ c.toNat
      · rw [if_pos (by omega)]
        by_cases h2 : c.toNat ≤ 122
        · rw [if_pos (by omega), if_pos (by simp [isLow, h1, h2]), succ_val _ (by omega)]
          obtain ⟨k', hk', e⟩ := ih (m + 1) k r (by omega) (by omega) (by omega) (by rw [← Nat.add_assoc]; exact hS.tail)
          refine ⟨k', by omega, ?_⟩
          rw [e, show 8 - (m + 1) = 7 - m from by omega, List.length_cons]
          generalize ((r.take (7 - m)).takeWhile isLow).length = q
          rw [show m + 1 + q = m + (q + 1) from by omega]
        · refine ⟨k, by omega, ?_⟩
          rw [if_neg (show ¬ (c.toNat : Int) ≤ 122 by omega), if_neg (show ¬ isLow c = true by simp [isLow, h2]), List.length_nil, Nat.add_zero]
      · refine ⟨k, by omega, ?_⟩
        rw [if_neg (show ¬ (c.toNat : Int) ≥ 97 by omega), if_neg (show ¬ isLow c = true by simp [isLow, h1]), List.length_nil, Nat.add_zero]
theorem one_name {s : ByteArray} {i : Nat} {r : List UInt8} (h : Suf s i r) (hs : s.size ≤ 1000000) (w : Bool) (n : ByteArray) (k : Nat) (hk : s.size + 34 ≤ k) :
    ToldR s (eyewitnessref07_one.l0 k s i 0 w n 0) (nameL w r) := by
  have hle := h.le
  obtain ⟨k', hk', e⟩ := one_l0 s hs i w n 0 8 0 k r rfl (by omega) (by omega) h
  rw [show ((0 : Nat) : Int) = 0 from rfl, Nat.zero_add] at e
  rw [show ((r.take (8 - 0)).takeWhile isLow).length = nameLen r from rfl] at e
  rw [e]
  obtain ⟨k', rfl⟩ : ∃ q, k' = q + 2 := ⟨k' - 2, by omega⟩
  have hnle : nameLen r ≤ r.length := Nat.le_trans (List.takeWhile_sublist isLow).length_le (List.length_take_le' _ _)
  have h3 := h.drop (nameLen r) hnle
  have hle3 := h3.le
  have hw : wrap64 ((i : Int) + (nameLen r : Nat)) = ((i + nameLen r : Nat) : Int) := by rw [w64 (by omega) (by omega)]; omega
  have hnm2 : s.extract i (i + nameLen r) = mkB (r.take (nameLen r)) := by
    apply ba_ext
    rw [Lib.extract_data, h.eq, show i + nameLen r - i = nameLen r from by omega]
    rfl
  rw [eyewitnessref07_one.j3, hw, if_pos (by omega), if_pos (by omega), if_pos (by omega), Int.toNat_natCast, Int.toNat_natCast, hnm2]
  unfold nameL
  by_cases hn : nameLen r = 0
  · rw [if_pos (by omega), if_pos hn, one_j4t]
    exact ⟨h.at.2, .inl rfl, by rw [h.at.1, hn, Nat.add_zero]⟩
  · rw [if_neg (by omega), if_neg hn]
    cases hr3 : r.drop (nameLen r) with
    | nil =>
      rw [hr3] at h3
      have := h3.nil
      rw [if_pos (by omega), one_j4t]
      exact ⟨h3.at.2, .inl rfl, by rw [h3.at.1]⟩
    | cons c2 r2 =>
      rw [hr3] at h3
      have := h3.lt
      show ToldR s _ (if c2 = 61 then valL w (mkB (r.take (nameLen r))) r2 else .no (c2 :: r2) 2)
      rw [if_neg (by omega), if_pos (by omega), if_pos (by omega), h3.bt]
      by_cases hc : c2 = 61
      · rw [if_pos hc, show ((c2.toNat : Int) != 61) = false by rw [hc]; rfl]
        exact one_j4 h3 hs hc w _ 0 _ (by omega)
      · rw [if_neg hc, show ((c2.toNat : Int) != 61) = true by simpa using fun hh => hc ((@toNat_eq c2 61 (by omega)).1 hh), one_j4t]
        exact ⟨h3.at.2, .inl rfl, by rw [h3.at.1]⟩
theorem one_ok {s : ByteArray} {i : Nat} {r : List UInt8} (h : Suf s i r) (hs : s.size ≤ 1000000) (k : Nat) (hk : s.size + 40 ≤ k) : ToldR s (eyewitnessref07_one.f k s i) (oneL r) := by
  obtain ⟨k, rfl⟩ : ∃ q, k = q + 2 := ⟨k - 2, by omega⟩
  have hle := h.le
  have hbad : eyewitnessref07_one.j0 (k + 2) s i true = some (false, ⟨#[]⟩, 0, (i : Int), 2) := by rw [eyewitnessref07_one.j0, if_pos rfl]
  unfold eyewitnessref07_one.f
  cases r with
  | nil =>
    have := h.nil
    rw [if_pos (by omega), hbad]
    exact ⟨h.at.2, .inl rfl, by rw [h.at.1]⟩
  | cons c r =>
    have hlt := h.lt
    have hgo : (c = 119 ∨ c = 114) → ToldR s (eyewitnessref07_one.j0 (k + 2) s i false) (colonL (decide (c = 119)) r) := by
      intro hc
      have hw : ((c.toNat : Int) == 119) = decide (c = 119) := by
        rcases hc with rfl | rfl <;> rfl
      have h2 := h.tail
      rw [eyewitnessref07_one.j0, if_neg (by simp), if_pos (by omega), if_pos (by omega), succ_val i (by omega), h.bt, hw]
      cases r with
      | nil =>
        have := h2.nil
        rw [if_pos (by omega), eyewitnessref07_one.j1, if_pos rfl]
        exact ⟨h2.at.2, .inl rfl, by rw [h2.at.1]⟩
      | cons c2 r2 =>
        have := h2.lt
        show ToldR s _ (if c2 = 58 then nameL _ r2 else .no (c2 :: r2) 2)
        rw [if_neg (by omega), if_pos (by omega), if_pos (by omega), h2.bt]
        by_cases hc2 : c2 = 58
        · rw [if_pos hc2, show ((c2.toNat : Int) != 58) = false by rw [hc2]; rfl, eyewitnessref07_one.j1, if_neg (by simp), succ_val _ (by omega)]
          exact one_name h2.tail hs _ _ k (by omega)
        · rw [if_neg hc2, show ((c2.toNat : Int) != 58) = true by simpa using fun hh => hc2 ((@toNat_eq c2 58 (by omega)).1 hh), eyewitnessref07_one.j1, if_pos rfl]
          exact ⟨h2.at.2, .inl rfl, by rw [h2.at.1]⟩
    show ToldR s _ (if c = 119 then colonL true r else if c = 114 then colonL false r else .no (c :: r) 2)
    rw [if_neg (by omega), if_pos (by omega), if_pos (by omega), h.bt]
    by_cases h1 : c = 119
    · rw [if_pos (show (c.toNat : Int) = 119 by rw [h1]; rfl), if_pos h1]
      have := hgo (.inl h1)
      rw [show decide (c = 119) = true by simpa using h1] at this
      exact this
    · rw [if_neg (show ¬ (c.toNat : Int) = 119 from fun hh => h1 ((@toNat_eq c 119 (by omega)).1 hh)), if_neg h1]
      by_cases h2 : c = 114
      · rw [if_pos h2, show ((c.toNat : Int) != 114) = false by rw [h2]; rfl]
        have := hgo (.inr h2)
        rw [show decide (c = 119) = false by simpa using h1] at this
        exact this
      · rw [if_neg h2, show ((c.toNat : Int) != 114) = true by simpa using fun hh => h2 ((@toNat_eq c 114 (by omega)).1 hh), hbad]
        exact ⟨h.at.2, .inl rfl, by rw [h.at.1]⟩

/-! ### the reference's text -/
theorem ref_j3 {s : ByteArray} {i : Nat} {r : List UInt8} (h : Suf s i r) (hs : s.size ≤ 1000000) (out : List (List S61)) (l : List S61) (n : Nat) (hn : n ≤ 1000000) (hl : l.length ≤ 2000000) (k : Nat) (hk : s.size + 40 ≤ k) :
    (∀ q e, oneL r = .no q e → eyewitnessref07_Text.j3 (k + 1) s out i n l false = some ([], ((s.size - q.length : Nat) : Int), e)) ∧
    (∀ x q, oneL r = .ok x q → Suf s (s.size - q.length) q ∧ (q = [] → eyewitnessref07_Text.j3 (k + 1) s out i n l false = some ([], (s.size : Int), 2)) ∧ (q ≠ [] → eyewitnessref07_Text.j3 (k + 1) s out i n l false = eyewitnessref07_Text.l1 k s out ((s.size - q.length : Nat) : Int) ((n + 1 : Nat) : Int) (l ++ [x]))) := by
  have ho := one_ok h hs k hk
  refine ⟨fun q e he => ?_, fun x q he => ?_⟩
  · rw [he] at ho
    obtain ⟨t1, t2, t3⟩ := ho
    rw [eyewitnessref07_Text.j3, if_neg Bool.false_ne_true, t3]
    simp only [Option.bind_some]
    rw [if_neg (by omega)]
  · rw [he] at ho
    obtain ⟨t1, t2, t3⟩ := ho
    have hS := told_suf t1 t2
    refine ⟨hS, fun hq => ?_, fun hq => ?_⟩
    · subst hq
      rw [eyewitnessref07_Text.j3, if_neg Bool.false_ne_true, t3]
      simp only [Option.bind_some]
      rw [if_pos trivial, if_pos (by omega)]
      simp
    · have hpos : 0 < q.length := List.length_pos_iff.2 hq
      rw [eyewitnessref07_Text.j3, if_neg Bool.false_ne_true, t3]
      simp only [Option.bind_some]
      rw [if_pos trivial, if_pos (by omega), if_neg (by omega), succ_val n (by omega)]
theorem ref_j2 {s : ByteArray} {i : Nat} {r : List UInt8} (h : Suf s i r) (hs : s.size ≤ 1000000) (out : List (List S61)) (l : List S61) (n : Nat) (hn : n ≤ 1000000) (hl : l.length ≤ 2000000) (k : Nat) (hk : s.size + 40 ≤ k) :
    (∀ q e, opL n r = .no q e → eyewitnessref07_Text.j2 (k + 2) s out i n l = some ([], ((s.size - q.length : Nat) : Int), e)) ∧
    (∀ x q, opL n r = .ok x q → Suf s (s.size - q.length) q ∧ (q = [] → eyewitnessref07_Text.j2 (k + 2) s out i n l = some ([], (s.size : Int), 2)) ∧ (q ≠ [] → eyewitnessref07_Text.j2 (k + 2) s out i n l = eyewitnessref07_Text.l1 k s out ((s.size - q.length : Nat) : Int) ((n + 1 : Nat) : Int) (l ++ [x]))) := by
  have hle := h.le
  have hj := ref_j3 h hs out l n hn hl k hk
  have hf : ¬ (n = 4096 ∧ (r.head? = some 119 ∨ r.head? = some 114)) → eyewitnessref07_Text.j2 (k + 2) s out i n l = eyewitnessref07_Text.j3 (k + 1) s out i n l false := by
    intro hno
    rw [eyewitnessref07_Text.j2]
    by_cases h4 : n = 4096
    · rw [if_pos (by omega)]
      cases r with
      | nil =>
        have := h.nil
        rw [if_neg (by omega)]
      | cons c r =>
        have := h.lt
        have h1 : ¬ c = 119 := fun e => hno ⟨h4, .inl (by rw [e]; rfl)⟩
        have h2 : ¬ c = 114 := fun e => hno ⟨h4, .inr (by rw [e]; rfl)⟩
        rw [if_pos (by omega), if_pos (by omega), h.bt, if_neg (show ¬ (c.toNat : Int) = 119 from fun hh => h1 ((@toNat_eq c 119 (by omega)).1 hh)), show ((c.toNat : Int) == 114) = false by simpa using fun hh => h2 ((@toNat_eq c 114 (by omega)).1 hh)]
    · rw [if_neg (by omega)]
  by_cases hb : n = 4096 ∧ (r.head? = some 119 ∨ r.head? = some 114)
  · have hop : opL n r = .no r 3 := if_pos hb
    rw [hop]
    refine ⟨fun q e he => ?_, fun x q he => by cases he⟩
    cases he
    cases r with
    | nil => rcases hb.2 with h | h <;> cases h
    | cons c r =>
      have := h.lt
      have hc : c = 119 ∨ c = 114 := hb.2.imp (fun h => Option.some.inj h) (fun h => Option.some.inj h)
      have ht : eyewitnessref07_Text.j3 (k + 1) s out i n l true = some ([], (i : Int), 3) := by rw [eyewitnessref07_Text.j3, if_pos rfl]
      rw [eyewitnessref07_Text.j2, if_pos (by omega), if_pos (by omega), if_pos (by omega), h.bt, h.at.1]
      rcases hc with rfl | rfl
      · rw [if_pos (show ((119 : UInt8).toNat : Int) = 119 from rfl)]; exact ht
      · rw [if_neg (by decide)]; exact ht
  · have hop : opL n r = oneL r := if_neg hb
    rw [hop, hf hb]
    exact hj
theorem runs_cut {out l n r R} (h : Runs out l n r R) (hr : r = []) (hl : l ≠ []) : R = .no [] 2 := by
  cases h with
  | done => exact absurd rfl hl
  | cut => rfl
  | line => cases hr
  | bad => cases hr
  | op0 => cases hr
  | no0 => cases hr
  | op1 => cases hr
  | no1 => cases hr
theorem ref_runs (s : ByteArray) (hs : s.size ≤ 1000000) {out l n r R} (hR : Runs out l n r R) : ∀ i, Suf s i r → out.length + r.length ≤ 2000000 → l.length + r.length ≤ 2000000 → n + r.length ≤ 1000000 →
    (r ≠ [] → ∀ k, 4 * r.length + s.size + 60 ≤ k → eyewitnessref07_Text.l1 k s out i n l = some (ansT s R)) ∧ (l = [] → ∀ k, 4 * r.length + s.size + 61 ≤ k → eyewitnessref07_Text.l0 k s out i n = some (ansT s R)) := by
  have hstep : ∀ {out l n c r R} {i : Nat}, Suf s i (c :: r) → (∀ k, 4 * (c :: r).length + s.size + 60 ≤ k → eyewitnessref07_Text.l1 k s out i n l = some (ansT s R)) →
      ((c :: r) ≠ [] → ∀ k, 4 * (c :: r).length + s.size + 60 ≤ k → eyewitnessref07_Text.l1 k s out i n l = some (ansT s R)) ∧ (l = [] → ∀ k, 4 * (c :: r).length + s.size + 61 ≤ k → eyewitnessref07_Text.l0 k s out i n = some (ansT s R)) := by
    intro out l n c r R i hS h1
    refine ⟨fun _ => h1, fun hl k hk => ?_⟩
    obtain ⟨k, rfl⟩ : ∃ q, k = q + 1 := ⟨k - 1, by omega⟩
    subst hl
    have := hS.lt
    rw [eyewitnessref07_Text.l0, if_pos (by omega)]
    exact h1 k (by omega)
  induction hR with
  | done out n =>
    intro i hi h1 h2 h3
    refine ⟨fun h => absurd rfl h, fun _ k hk => ?_⟩
    obtain ⟨k, rfl⟩ : ∃ q, k = q + 1 := ⟨k - 1, by omega⟩
    have := hi.nil
    rw [eyewitnessref07_Text.l0, if_neg (by omega)]
    rfl
  | cut out l n hl =>
    intro i hi h1 h2 h3
    exact ⟨fun h => absurd rfl h, fun h => absurd h hl⟩
  | line out l n r R h ih =>
    intro i hi h1 h2 h3
    refine hstep hi fun k hk => ?_
    simp only [List.length_cons] at h1 h2 h3 hk
    obtain ⟨k, rfl⟩ : ∃ q, k = q + 1 := ⟨k - 1, by omega⟩
    have hh := (ih (i + 1) hi.tail (by simp only [List.length_append, List.length_cons, List.length_nil]; omega) (by simp only [List.length_nil]; omega) (by omega)).2 rfl
    have hlt := hi.lt
    rw [eyewitnessref07_Text.l1, if_pos (by omega), if_pos (by omega), hi.bt, if_pos (show ((10 : UInt8).toNat : Int) = 10 from rfl), if_pos (by omega), succ_val i (by omega)]
    exact hh k (by omega)
  | bad out l n c r hl h1 h2 =>
    intro i hi h3 h4 h5
    refine hstep hi fun k hk => ?_
    obtain ⟨k, rfl⟩ : ∃ q, k = q + 1 := ⟨k - 1, by omega⟩
    have hlt := hi.lt
    have hpos : 0 < l.length := List.length_pos_iff.2 hl
    rw [eyewitnessref07_Text.l1, if_pos (by omega), if_pos (by omega), hi.bt, if_neg (show ¬ (c.toNat : Int) = 10 from fun hh => h1 ((@toNat_eq c 10 (by omega)).1 hh)), if_pos (by omega), if_neg (show ¬ (c.toNat : Int) = 32 from fun hh => h2 ((@toNat_eq c 32 (by omega)).1 hh))]
    simp only [ansT, hi.at.1]
  | op0 out n c r x q R h1 ho h ih =>
    intro i hi h3 h4 h5
    refine hstep hi fun k hk => ?_
    obtain ⟨k, rfl⟩ : ∃ q, k = q + 3 := ⟨k - 3, by omega⟩
    have hlt := hi.lt
    have hq := opL_len ho
    simp only [List.length_cons] at h3 h4 h5 hk hq
    obtain ⟨hS, g1, g2⟩ := (ref_j2 hi hs out [] n (by omega) (by simp) k (by omega)).2 x q ho
    rw [eyewitnessref07_Text.l1, if_pos (by omega), if_pos (by omega), hi.bt, if_neg (show ¬ (c.toNat : Int) = 10 from fun hh => h1 ((@toNat_eq c 10 (by omega)).1 hh)), if_neg (by simp)]
    by_cases hq0 : q = []
    · rw [g1 hq0]
      rw [runs_cut h hq0 (by simp)]
      rfl
    · rw [g2 hq0]
      exact (ih _ hS (by omega) (by simp only [List.length_cons, List.length_nil]; omega) (by omega)).1 hq0 k (by omega)
  | no0 out n c r q e h1 ho =>
    intro i hi h3 h4 h5
    refine hstep hi fun k hk => ?_
    obtain ⟨k, rfl⟩ : ∃ q, k = q + 3 := ⟨k - 3, by omega⟩
    have hlt := hi.lt
    simp only [List.length_cons] at h3 h4 h5 hk
    rw [eyewitnessref07_Text.l1, if_pos (by omega), if_pos (by omega), hi.bt, if_neg (show ¬ (c.toNat : Int) = 10 from fun hh => h1 ((@toNat_eq c 10 (by omega)).1 hh)), if_neg (by simp)]
    exact (ref_j2 hi hs out [] n (by omega) (by simp) k (by omega)).1 q e ho
  | op1 out l n r x q R hl ho h ih =>
    intro i hi h3 h4 h5
    refine hstep hi fun k hk => ?_
    obtain ⟨k, rfl⟩ : ∃ q, k = q + 3 := ⟨k - 3, by omega⟩
    have hlt := hi.lt
    have hq := opL_len ho
    have hpos : 0 < l.length := List.length_pos_iff.2 hl
    simp only [List.length_cons] at h3 h4 h5 hk hq
    obtain ⟨hS, g1, g2⟩ := (ref_j2 hi.tail hs out l n (by omega) (by omega) k (by omega)).2 x q ho
    rw [eyewitnessref07_Text.l1, if_pos (by omega), if_pos (by omega), hi.bt, if_neg (by decide), if_pos (by omega), if_pos (show ((32 : UInt8).toNat : Int) = 32 from rfl), succ_val i (by omega)]
    by_cases hq0 : q = []
    · rw [g1 hq0]
      rw [runs_cut h hq0 (by simp)]
      rfl
    · rw [g2 hq0]
      exact (ih _ hS (by omega) (by simp only [List.length_append, List.length_cons, List.length_nil]; omega) (by omega)).1 hq0 k (by omega)
  | no1 out l n r q e hl ho =>
    intro i hi h3 h4 h5
    refine hstep hi fun k hk => ?_
    obtain ⟨k, rfl⟩ : ∃ q, k = q + 3 := ⟨k - 3, by omega⟩
    have hlt := hi.lt
    have hpos : 0 < l.length := List.length_pos_iff.2 hl
    simp only [List.length_cons] at h3 h4 h5 hk
    rw [eyewitnessref07_Text.l1, if_pos (by omega), if_pos (by omega), hi.bt, if_neg (by decide), if_pos (by omega), if_pos (show ((32 : UInt8).toNat : Int) = 32 from rfl), succ_val i (by omega)]
    exact (ref_j2 hi.tail hs out l n (by omega) (by omega) k (by omega)).1 q e ho
end Go.Proofs.YtcabnjinfkjnjaaDoor.XH
