-- Written by a program of this session (mknumm.py): the numbers' lemmas of PureNumLaws.
import Derived.Test.YtcabnjinfkjnjaaDoorPureNum
namespace Go.Proofs.YtcabnjinfkjnjaaDoor.XH
open Go.RowKit Go.Proofs.YtcabnjinfkjnjaaDoorW.PrintWords Go.Proofs.YtcabnjinfkjnjaaDoorW.PrintLast Go.Proofs.YtcabnjinfkjnjaaDoor.X
set_option linter.unusedVariables false
theorem getLoop_append (M : Nat) : ∀ (l r : List UInt8) (N : Nat), getLoop M N (l ++ r) = (getLoop M N l).bind fun n => getLoop M n r := by
  intro l
  induction l with
  | nil => intro r N; rfl
  | cons c l ih =>
    intro r N
    simp only [List.cons_append, getLoop]
    split
    · rfl
    · exact ih r _
theorem digit_nat (u : Nat) (h : u < 10) : (UInt8.ofNat (48 + u)).toNat = 48 + u := by
  rw [UInt8.toNat_ofNat']
  omega
theorem getLoop_digits (M : Nat) (u : Nat) : u ≤ M → getLoop M 0 (Lib.decDigits u) = some u := by
  induction u using Nat.strongRecOn with
  | _ u ih =>
    intro hM
    by_cases h : u < 10
    · rw [decDigits_small h, getLoop, digit_nat u h, if_neg (by omega), getLoop]
      congr 1; omega
    · rw [decDigits_big h, getLoop_append, ih (u / 10) (by omega) (by omega)]
      simp only [Option.bind_some]
      rw [getLoop, digit_nat (u % 10) (by omega), if_neg (by omega), getLoop]
      congr 1; omega
theorem decDigits_all (u : Nat) : ∀ x ∈ Lib.decDigits u, isDig x = true := by
  induction u using Nat.strongRecOn with
  | _ u ih =>
    intro x hx
    by_cases h : u < 10
    · rw [decDigits_small h] at hx
      obtain rfl := List.mem_singleton.1 hx
      rw [isDig_iff, digit_nat u h]; omega
    · rw [decDigits_big h] at hx
      rcases List.mem_append.1 hx with hx | hx
      · exact ih (u / 10) (by omega) x hx
      · obtain rfl := List.mem_singleton.1 hx
        rw [isDig_iff, digit_nat (u % 10) (by omega)]; omega
theorem decDigits_head (u : Nat) (hu : 0 < u) : ∃ c r, Lib.decDigits u = c :: r ∧ c ≠ 48 := by
  induction u using Nat.strongRecOn with
  | _ u ih =>
    by_cases h : u < 10
    · refine ⟨_, [], decDigits_small h, ?_⟩
      intro e
      have := digit_nat u h
      rw [e] at this
      have h48 : (48 : UInt8).toNat = 48 := rfl
      omega
    · obtain ⟨c, r, e, hc⟩ := ih (u / 10) (by omega) (by omega)
      exact ⟨c, r ++ [UInt8.ofNat (48 + u % 10)], by rw [decDigits_big h, e]; rfl, hc⟩
theorem decDigits_zero : Lib.decDigits 0 = [48] := decDigits_small (by omega)
theorem head_not_minus (u : Nat) : ∃ c r, Lib.decDigits u = c :: r ∧ c ≠ 45 := by
  rcases Nat.eq_zero_or_pos u with rfl | h
  · exact ⟨48, [], decDigits_zero, by decide⟩
  · obtain ⟨c, r, e, hc⟩ := decDigits_head u h
    refine ⟨c, r, e, ?_⟩
    intro h45
    have := decDigits_all u c (by rw [e]; exact List.mem_cons_self ..)
    rw [h45] at this
    exact absurd this (by decide)
theorem cut_pos (u : Nat) : cutD (Lib.decDigits u) = Lib.decDigits u ∧ isNeg (Lib.decDigits u) = false := by
  obtain ⟨c, r, e, hc⟩ := head_not_minus u
  rw [e, (cutD_cons c r).1, (cutD_cons c r).2, if_neg hc]
  exact ⟨rfl, by simpa using hc⟩
theorem cut_neg (u : Nat) : cutD (45 :: Lib.decDigits u) = Lib.decDigits u ∧ isNeg (45 :: Lib.decDigits u) = true := by
  rw [(cutD_cons 45 _).1, (cutD_cons 45 _).2, if_pos rfl]
  exact ⟨rfl, rfl⟩
theorem get_itoa (n : Int) (h0 : -9223372036854775808 ≤ n) (h1 : n ≤ 9223372036854775807) : getV (Lib.itoa n) = (n, 0) := by
  have hne : ∀ u, Lib.decDigits u ≠ [] := fun u => by obtain ⟨c, r, e, _⟩ := head_not_minus u; rw [e]; simp
  have htr : ∀ u, trimD (Lib.decDigits u) = [] := fun u => (trimD_iff _).2 (decDigits_all u)
  unfold getV
  by_cases hn : n < 0
  · obtain ⟨u, rfl⟩ : ∃ u : Nat, n = -(u : Int) := ⟨n.natAbs, by omega⟩
    rw [Lib.itoa_neg u (by omega), (cut_neg u).1, (cut_neg u).2, if_neg (hne u), htr, if_neg (show ¬ (([] : List UInt8) ≠ []) by simp)]
    obtain ⟨c, r, e, hc⟩ := decDigits_head u (by omega)
    rw [if_neg (by rw [e]; simp [hc]), if_pos rfl, getLoop_digits _ u (by omega)]
    rfl
  · obtain ⟨u, rfl⟩ : ∃ u : Nat, n = (u : Int) := ⟨n.toNat, by omega⟩
    rw [Lib.itoa_nonneg, (cut_pos u).1, (cut_pos u).2, if_neg (hne u), htr, if_neg (show ¬ (([] : List UInt8) ≠ []) by simp)]
    have hz : ¬ ((Lib.decDigits u).head? = some 48 ∧ Lib.decDigits u ≠ [48]) := by
      rcases Nat.eq_zero_or_pos u with rfl | h
      · rw [decDigits_zero]; simp
      · obtain ⟨c, r, e, hc⟩ := decDigits_head u h
        rw [e]; simp [hc]
    rw [if_neg hz, if_neg (by simp), getLoop_digits _ u (by omega)]
    rfl
theorem digit_back (x : UInt8) (h : isDig x = true) : UInt8.ofNat (48 + (x.toNat - 48)) = x := by
  have := (isDig_iff x).1 h
  apply UInt8.toNat_inj.mp
  rw [digit_nat _ (by omega)]
  omega
theorem digits_back (M : Nat) : ∀ (n : Nat) (d : List UInt8), d.length = n → d ≠ [] → (∀ x ∈ d, isDig x = true) → (d.head? = some 48 → d = [48]) → ∀ u, getLoop M 0 d = some u → Lib.decDigits u = d := by
  intro n
  induction n with
  | zero => intro d hd hne; exact absurd (List.eq_nil_of_length_eq_zero hd) hne
  | succ n ih =>
    intro d hd hne hall hz u hu
    obtain ⟨r, c, rfl⟩ : ∃ r c, d = r ++ [c] := ⟨d.dropLast, d.getLast hne, (List.dropLast_concat_getLast hne).symm⟩
    have hc := hall c (by simp)
    have hc' := (isDig_iff c).1 hc
    rw [getLoop_append] at hu
    cases r with
    | nil =>
      simp only [getLoop, Option.bind_some] at hu
      split at hu
      · cases hu
      · obtain rfl := Option.some.inj hu
        rw [decDigits_small (by omega), show 48 + (10 * 0 + (c.toNat - 48)) = 48 + (c.toNat - 48) from by omega, digit_back c hc]
        rfl
    | cons x r =>
      cases hr : getLoop M 0 (x :: r) with
      | none => rw [hr] at hu; cases hu
      | some v =>
        rw [hr] at hu
        simp only [getLoop, Option.bind_some] at hu
        split at hu
        · cases hu
        · obtain rfl := Option.some.inj hu
          have hx : x ≠ 48 := by
            intro h
            have := hz (by simp [h])
            simp at this
          have hv := ih (x :: r) (by simpa using hd) (by simp) (fun y hy => hall y (List.mem_append_left _ hy)) (by simp [hx]) v hr
          have hv0 : 0 < v := by
            rcases Nat.eq_zero_or_pos v with rfl | h
            · rw [decDigits_zero] at hv
              simp at hv
              exact absurd hv.1.symm hx
            · exact h
          rw [decDigits_big (by omega), show (10 * v + (c.toNat - 48)) / 10 = v from by omega, show (10 * v + (c.toNat - 48)) % 10 = c.toNat - 48 from by omega, hv, digit_back c hc]
theorem itoa_get (s : List UInt8) (hr : (getV s).2 = 0) : Lib.itoa (getV s).1 = s := by
  unfold getV at hr ⊢
  by_cases h1 : cutD s = []
  · rw [if_pos h1] at hr; cases hr
  rw [if_neg h1] at hr ⊢
  by_cases h2 : trimD (cutD s) ≠ []
  · rw [if_pos h2] at hr; cases hr
  rw [if_neg h2] at hr ⊢
  by_cases h3 : (cutD s).head? = some 48 ∧ s ≠ [48]
  · rw [if_pos h3] at hr; cases hr
  rw [if_neg h3] at hr ⊢
  have hall := (trimD_iff _).1 (Classical.not_not.1 h2)
  have hz : (cutD s).head? = some 48 → cutD s = [48] := by
    intro h
    have h4 : s = [48] := Classical.byContradiction fun h5 => h3 ⟨h, h5⟩
    rw [h4]; decide
  cases hg : getLoop (if isNeg s then 9223372036854775808 else 9223372036854775807) 0 (cutD s) with
  | none => rw [hg] at hr; cases hr
  | some u =>
    have hd := digits_back _ _ (cutD s) rfl h1 hall hz u hg
    cases hs : s with
    | nil => rw [hs] at h1; exact absurd cutD_nil.1 h1
    | cons c r =>
      rw [hs] at hd
      rw [(cutD_cons c r).1] at hd
      by_cases hc : c = 45
      · subst hc
        rw [if_pos rfl] at hd
        rw [(cutD_cons 45 r).2]
        show Lib.itoa (-(u : Int)) = 45 :: r
        have hu : 1 ≤ u := by
          rcases Nat.eq_zero_or_pos u with rfl | h
          · exfalso
            rw [decDigits_zero] at hd
            have hcut : cutD s = [48] := by rw [hs, (cutD_cons 45 r).1, if_pos rfl, ← hd]
            refine h3 ⟨by rw [hcut]; rfl, ?_⟩
            rw [hs]
            intro e
            have := (List.cons.inj e).1
            exact absurd this (by decide)
          · exact h
        rw [Lib.itoa_neg u hu, hd]
      · rw [if_neg hc] at hd
        rw [(cutD_cons c r).2, decide_eq_false hc]
        show Lib.itoa (u : Int) = c :: r
        rw [Lib.itoa_nonneg, hd]
theorem get_zero (s : List UInt8) (hr : (getV s).2 ≠ 0) : (getV s).1 = 0 := by
  unfold getV at hr ⊢
  split
  · rfl
  split
  · rfl
  split
  · rfl
  · rename_i h1 h2 h3
    rw [if_neg h1, if_neg h2, if_neg h3] at hr
    cases hg : getLoop (if isNeg s then 9223372036854775808 else 9223372036854775807) 0 (cutD s) with
    | none => rfl
    | some u => rw [hg] at hr; exact absurd rfl hr
theorem get_in (s : List UInt8) : -9223372036854775808 ≤ (getV s).1 ∧ (getV s).1 ≤ 9223372036854775807 := by
  have hle : ∀ (M : Nat) (l : List UInt8) (N u : Nat), N ≤ M → getLoop M N l = some u → u ≤ M := by
    intro M l
    induction l with
    | nil => intro N u hN h; simp only [getLoop, Option.some.injEq] at h; omega
    | cons c l ih =>
      intro N u hN h
      simp only [getLoop] at h
      split at h
      · cases h
      · exact ih _ u (by omega) h
  unfold getV
  split
  · decide
  split
  · decide
  split
  · decide
  · cases hn : isNeg s with
    | false =>
      cases hg : getLoop (if false = true then 9223372036854775808 else 9223372036854775807) 0 (cutD s) with
      | none => decide
      | some u =>
        have := hle _ _ _ _ (by omega) hg
        show -9223372036854775808 ≤ (u : Int) ∧ (u : Int) ≤ 9223372036854775807
        simp at this
        omega
    | true =>
      cases hg : getLoop (if true = true then 9223372036854775808 else 9223372036854775807) 0 (cutD s) with
      | none => decide
      | some u =>
        have := hle _ _ _ _ (by omega) hg
        show -9223372036854775808 ≤ -(u : Int) ∧ -(u : Int) ≤ 9223372036854775807
        simp at this
        omega
theorem span_digits (d r : List UInt8) (h : ∀ x ∈ d, isDig x = true) (hr : (r.takeWhile isDig) = []) : ((d ++ r).takeWhile isDig).length = d.length := by
  induction d with
  | nil => rw [List.nil_append, hr]
  | cons a d ih => rw [List.cons_append, List.takeWhile_cons, if_pos (h a (List.mem_cons_self ..)), List.length_cons, ih fun x hx => h x (List.mem_cons_of_mem _ hx), List.length_cons]
theorem span_itoa (n : Int) (r : List UInt8) (hr : (r.takeWhile isDig) = []) : spanL (Lib.itoa n ++ r) = (Lib.itoa n).length := by
  by_cases hn : n < 0
  · obtain ⟨u, rfl⟩ : ∃ u : Nat, n = -(u : Int) := ⟨n.natAbs, by omega⟩
    rw [Lib.itoa_neg u (by omega)]
    unfold spanL
    rw [if_pos (show (45 :: Lib.decDigits u ++ r).head? = some 45 from rfl)]
    show 1 + ((Lib.decDigits u ++ r).takeWhile isDig).length = _
    rw [span_digits _ r (decDigits_all u) hr, List.length_cons]
    omega
  · obtain ⟨u, rfl⟩ : ∃ u : Nat, n = (u : Int) := ⟨n.toNat, by omega⟩
    rw [Lib.itoa_nonneg]
    obtain ⟨c, q, e, hc⟩ := head_not_minus u
    unfold spanL
    rw [if_neg (by rw [e]; simpa using hc), span_digits _ r (decDigits_all u) hr]
theorem itoa_size (n : Int) (h0 : -9223372036854775808 ≤ n) (h1 : n ≤ 9223372036854775807) : (ByteArray.mk (Lib.itoa n).toArray).size ≤ 21 := by
  rw [size_mk]
  exact Lib.itoa_length_le n h0 h1
end Go.Proofs.YtcabnjinfkjnjaaDoor.XH
