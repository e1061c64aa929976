-- Written by a program of this session (mkreadl.py): the list part of the plain laws of read, the reference's Text, and the numbers' lemmas; without the walk of read.
import Derived.Test.YtcabnjinfkjnjaaDoorPureNum
import Derived.Test.YtcabnjinfkjnjaaDoorXHx10
import Derived.Test.YtcabnjinfkjnjaaDoorXHx12
import Derived.Test.YtcabnjinfkjnjaaDoorXHs13
namespace Go.Proofs.YtcabnjinfkjnjaaDoor.XH
open Go.RowKit Go.Proofs.YtcabnjinfkjnjaaDoorW.PrintWords Go.Proofs.YtcabnjinfkjnjaaDoorW.PrintLast Go.Proofs.YtcabnjinfkjnjaaDoor.X
set_option linter.unusedVariables false
inductive Res (α : Type) where
  | ok (x : α) (rest : List UInt8)
  | no (rest : List UInt8) (e : Int)
def isLow (c : UInt8) : Bool := decide (97 ≤ c.toNat) && decide (c.toNat ≤ 122)
def nameLen (l : List UInt8) : Nat := ((l.take 8).takeWhile isLow).length
def mkB (l : List UInt8) : ByteArray := ⟨l.toArray⟩
/-- The number at the head of a list: behind its name and the sign '='. -/
def valL (w : Bool) (nm : ByteArray) (l : List UInt8) : Res S61 :=
  if (getV (l.take (spanL l))).2 = 0 then .ok ⟨w, nm, (getV (l.take (spanL l))).1⟩ (l.drop (spanL l)) else .no l (getV (l.take (spanL l))).2
def nameL (w : Bool) (l : List UInt8) : Res S61 :=
  if nameLen l = 0 then .no l 2
  else match l.drop (nameLen l) with
    | [] => .no [] 2
    | c :: r => if c = 61 then valL w (mkB (l.take (nameLen l))) r else .no (c :: r) 2
def colonL (w : Bool) : List UInt8 → Res S61
  | [] => .no [] 2
  | c :: r => if c = 58 then nameL w r else .no (c :: r) 2
def oneL : List UInt8 → Res S61
  | [] => .no [] 2
  | c :: r => if c = 119 then colonL true r else if c = 114 then colonL false r else .no (c :: r) 2
def opL (n : Nat) (l : List UInt8) : Res S61 := if n = 4096 ∧ (l.head? = some 119 ∨ l.head? = some 114) then .no l 3 else oneL l

structure Suf (s : ByteArray) (i : Nat) (r : List UInt8) : Prop where
  le : i ≤ s.size
  eq : s.data.toList.drop i = r
theorem Suf.len {s : ByteArray} {i : Nat} {r : List UInt8} (h : Suf s i r) : r.length = s.size - i := by rw [← h.eq, List.length_drop, ← size_list]
theorem Suf.tail {s : ByteArray} {i : Nat} {c : UInt8} {r : List UInt8} (h : Suf s i (c :: r)) : Suf s (i + 1) r := by
  have hl := h.len
  simp only [List.length_cons] at hl
  refine ⟨by omega, ?_⟩
  rw [← List.drop_drop, h.eq]
  rfl
theorem Suf.lt {s : ByteArray} {i : Nat} {c : UInt8} {r : List UInt8} (h : Suf s i (c :: r)) : i < s.size := by
  have hl := h.len
  simp only [List.length_cons] at hl
  omega
theorem Suf.bt {s : ByteArray} {i : Nat} {c : UInt8} {r : List UInt8} (h : Suf s i (c :: r)) : bt s (i : Int) = (c.toNat : Int) := by
  have hlt : i < s.data.toList.length := by rw [← size_list]; exact h.lt
  rw [bt_list s i hlt]
  have := List.drop_eq_getElem_cons hlt
  rw [h.eq] at this
  rw [(List.cons.inj this).1]
theorem Suf.nil {s : ByteArray} {i : Nat} (h : Suf s i []) : i = s.size := by
  have hl := h.len
  have := h.le
  simp only [List.length_nil] at hl
  omega
theorem Suf.drop {s : ByteArray} {i : Nat} {r : List UInt8} (h : Suf s i r) (k : Nat) (hk : k ≤ r.length) : Suf s (i + k) (r.drop k) := by
  have hl := h.len
  have := h.le
  refine ⟨by omega, ?_⟩
  rw [← List.drop_drop, h.eq]
theorem Suf.start (s : ByteArray) : Suf s 0 s.data.toList := ⟨Nat.zero_le _, rfl⟩
theorem toNat_eq {c : UInt8} {n : Nat} (hn : n < 256) : ((c.toNat : Int) = (n : Int)) ↔ c = UInt8.ofNat n := by
  constructor
  · intro h
    apply UInt8.toNat_inj.mp
    rw [UInt8.toNat_ofNat']
    omega
  · rintro rfl
    rw [UInt8.toNat_ofNat']
    omega

theorem spanL_le (l : List UInt8) : spanL l ≤ l.length := by
  unfold spanL
  split
  · rename_i hh
    have h3 := (List.takeWhile_sublist isDig (l := l.tail)).length_le
    cases l with
    | nil => cases hh
    | cons c r => simp only [List.tail_cons, List.length_cons] at h3 ⊢; omega
  · exact (List.takeWhile_sublist isDig).length_le
theorem Suf.span {s : ByteArray} {i : Nat} {r : List UInt8} (h : Suf s i r) : spanAt s i = (spanL r : Nat) := by
  have hle := h.le
  have hl := h.len
  unfold spanAt
  rw [if_neg (by omega)]
  by_cases h1 : (i : Int) ≥ s.size
  · rw [if_pos h1]
    have : r = [] := List.eq_nil_of_length_eq_zero (by omega)
    rw [this]; rfl
  · rw [if_neg h1, Int.toNat_natCast, h.eq]
theorem Suf.at {s : ByteArray} {i : Nat} {r : List UInt8} (h : Suf s i r) : s.size - r.length = i ∧ r.length ≤ s.size := by
  have hl := h.len
  have := h.le
  omega
theorem getV_err (l : List UInt8) : (getV l).2 = 0 ∨ (getV l).2 = 2 ∨ (getV l).2 = 3 := by
  unfold getV
  split
  · exact .inr (.inl rfl)
  split
  · exact .inr (.inl rfl)
  split
  · exact .inr (.inl rfl)
  · cases getLoop (if isNeg l = true then 9223372036854775808 else 9223372036854775807) 0 (cutD l) with
    | none => exact .inr (.inr rfl)
    | some n => exact .inl rfl
theorem getLoop_append (M : Nat) : ∀ (l r : List UInt8) (N : Nat), getLoop M N (l ++ r) = (getLoop M N l).bind fun n => getLoop M n r := by
  intro l
  induction l with
  | nil => intro r N; rfl
  | cons c l ih =>
    intro r N
    simp only [List.cons_append, getLoop]
    split
    · rfl
    · exact ih r _
theorem digit_nat (u : Nat) (h : u < 10) : (UInt8.ofNat (48 + u)).toNat = 48 + u := by
  rw [UInt8.toNat_ofNat']
  omega
theorem getLoop_digits (M : Nat) (u : Nat) : u ≤ M → getLoop M 0 (Lib.decDigits u) = some u := by
  induction u using Nat.strongRecOn with
  | _ u ih =>
    intro hM
    by_cases h : u < 10
    · rw [decDigits_small h, getLoop, digit_nat u h, if_neg (by omega), getLoop]
      congr 1; omega
    · rw [decDigits_big h, getLoop_append, ih (u / 10) (by omega) (by omega)]
      simp only [Option.bind_some]
      rw [getLoop, digit_nat (u % 10) (by omega), if_neg (by omega), getLoop]
      congr 1; omega
theorem decDigits_all (u : Nat) : ∀ x ∈ Lib.decDigits u, isDig x = true := by
  induction u using Nat.strongRecOn with
  | _ u ih =>
    intro x hx
    by_cases h : u < 10
    · rw [decDigits_small h] at hx
      obtain rfl := List.mem_singleton.1 hx
      rw [isDig_iff, digit_nat u h]; omega
    · rw [decDigits_big h] at hx
      rcases List.mem_append.1 hx with hx | hx
      · exact ih (u / 10) (by omega) x hx
      · obtain rfl := List.mem_singleton.1 hx
        rw [isDig_iff, digit_nat (u % 10) (by omega)]; omega
theorem decDigits_head (u : Nat) (hu : 0 < u) : ∃ c r, Lib.decDigits u = c :: r ∧ c ≠ 48 := by
  induction u using Nat.strongRecOn with
  | _ u ih =>
    by_cases h : u < 10
    · refine ⟨_, [], decDigits_small h, ?_⟩
      intro e
      have := digit_nat u h
      rw [e] at this
      have h48 : (48 : UInt8).toNat = 48 := rfl
      omega
    · obtain ⟨c, r, e, hc⟩ := ih (u / 10) (by omega) (by omega)
      exact ⟨c, r ++ [UInt8.ofNat (48 + u % 10)], by rw [decDigits_big h, e]; rfl, hc⟩
theorem decDigits_zero : Lib.decDigits 0 = [48] := decDigits_small (by omega)
theorem head_not_minus (u : Nat) : ∃ c r, Lib.decDigits u = c :: r ∧ c ≠ 45 := by
  rcases Nat.eq_zero_or_pos u with rfl | h
  · exact ⟨48, [], decDigits_zero, by decide⟩
  · obtain ⟨c, r, e, hc⟩ := decDigits_head u h
    refine ⟨c, r, e, ?_⟩
    intro h45
    have := decDigits_all u c (by rw [e]; exact List.mem_cons_self ..)
    rw [h45] at this
    exact absurd this (by decide)
theorem cut_pos (u : Nat) : cutD (Lib.decDigits u) = Lib.decDigits u ∧ isNeg (Lib.decDigits u) = false := by
  obtain ⟨c, r, e, hc⟩ := head_not_minus u
  rw [e, (cutD_cons c r).1, (cutD_cons c r).2, if_neg hc]
  exact ⟨rfl, by simpa using hc⟩
theorem cut_neg (u : Nat) : cutD (45 :: Lib.decDigits u) = Lib.decDigits u ∧ isNeg (45 :: Lib.decDigits u) = true := by
  rw [(cutD_cons 45 _).1, (cutD_cons 45 _).2, if_pos rfl]
  exact ⟨rfl, rfl⟩
theorem get_itoa (n : Int) (h0 : -9223372036854775808 ≤ n) (h1 : n ≤ 9223372036854775807) : getV (Lib.itoa n) = (n, 0) := by
  have hne : ∀ u, Lib.decDigits u ≠ [] := fun u => by obtain ⟨c, r, e, _⟩ := head_not_minus u; rw [e]; simp
  have htr : ∀ u, trimD (Lib.decDigits u) = [] := fun u => (trimD_iff _).2 (decDigits_all u)
  unfold getV
  by_cases hn : n < 0
  · obtain ⟨u, rfl⟩ : ∃ u : Nat, n = -(u : Int) := ⟨n.natAbs, by omega⟩
    rw [Lib.itoa_neg u (by omega), (cut_neg u).1, (cut_neg u).2, if_neg (hne u), htr, if_neg (show ¬ (([] : List UInt8) ≠ []) by simp)]
    obtain ⟨c, r, e, hc⟩ := decDigits_head u (by omega)
    rw [if_neg (by rw [e]; simp [hc]), if_pos rfl, getLoop_digits _ u (by omega)]
    rfl
  · obtain ⟨u, rfl⟩ : ∃ u : Nat, n = (u : Int) := ⟨n.toNat, by omega⟩
    rw [Lib.itoa_nonneg, (cut_pos u).1, (cut_pos u).2, if_neg (hne u), htr, if_neg (show ¬ (([] : List UInt8) ≠ []) by simp)]
    have hz : ¬ ((Lib.decDigits u).head? = some 48 ∧ Lib.decDigits u ≠ [48]) := by
      rcases Nat.eq_zero_or_pos u with rfl | h
      · rw [decDigits_zero]; simp
      · obtain ⟨c, r, e, hc⟩ := decDigits_head u h
        rw [e]; simp [hc]
    rw [if_neg hz, if_neg (by simp), getLoop_digits _ u (by omega)]
    rfl
theorem digit_back (x : UInt8) (h : isDig x = true) : UInt8.ofNat (48 + (x.toNat - 48)) = x := by
  have := (isDig_iff x).1 h
  apply UInt8.toNat_inj.mp
  rw [digit_nat _ (by omega)]
  omega
theorem digits_back (M : Nat) : ∀ (n : Nat) (d : List UInt8), d.length = n → d ≠ [] → (∀ x ∈ d, isDig x = true) → (d.head? = some 48 → d = [48]) → ∀ u, getLoop M 0 d = some u → Lib.decDigits u = d := by
  intro n
  induction n with
  | zero => intro d hd hne; exact absurd (List.eq_nil_of_length_eq_zero hd) hne
  | succ n ih =>
    intro d hd hne hall hz u hu
    obtain ⟨r, c, rfl⟩ : ∃ r c, d = r ++ [c] := ⟨d.dropLast, d.getLast hne, (List.dropLast_concat_getLast hne).symm⟩
    have hc := hall c (by simp)
    have hc' := (isDig_iff c).1 hc
    rw [getLoop_append] at hu
    cases r with
    | nil =>
      simp only [getLoop, Option.bind_some] at hu
      split at hu
      · cases hu
      · obtain rfl := Option.some.inj hu
        rw [decDigits_small (by omega), show 48 + (10 * 0 + (c.toNat - 48)) = 48 + (c.toNat - 48) from by omega, digit_back c hc]
        rfl
    | cons x r =>
      cases hr : getLoop M 0 (x :: r) with
      | none => rw [hr] at hu; cases hu
      | some v =>
        rw [hr] at hu
        simp only [getLoop, Option.bind_some] at hu
        split at hu
        · cases hu
        · obtain rfl := Option.some.inj hu
          have hx : x ≠ 48 := by
            intro h
            have := hz (by simp [h])
            simp at this
          have hv := ih (x :: r) (by simpa using hd) (by simp) (fun y hy => hall y (List.mem_append_left _ hy)) (by simp [hx]) v hr
          have hv0 : 0 < v := by
            rcases Nat.eq_zero_or_pos v with rfl | h
            · rw [decDigits_zero] at hv
              simp at hv
              exact absurd hv.1.symm hx
            · exact h
          rw [decDigits_big (by omega), show (10 * v + (c.toNat - 48)) / 10 = v from by omega, show (10 * v + (c.toNat - 48)) % 10 = c.toNat - 48 from by omega, hv, digit_back c hc]
theorem itoa_get (s : List UInt8) (hr : (getV s).2 = 0) : Lib.itoa (getV s).1 = s := by
  unfold getV at hr ⊢
  by_cases h1 : cutD s = []
  · rw [if_pos h1] at hr; cases hr
  rw [if_neg h1] at hr ⊢
  by_cases h2 : trimD (cutD s) ≠ []
  · rw [if_pos h2] at hr; cases hr
  rw [if_neg h2] at hr ⊢
  by_cases h3 : (cutD s).head? = some 48 ∧ s ≠ [48]
  · rw [if_pos h3] at hr; cases hr
  rw [if_neg h3] at hr ⊢
  have hall := (trimD_iff _).1 (Classical.not_not.1 h2)
  have hz : (cutD s).head? = some 48 → cutD s = [48] := by
    intro h
    have h4 : s = [48] := Classical.byContradiction fun h5 => h3 ⟨h, h5⟩
    rw [h4]; decide
  cases hg : getLoop (if isNeg s then 9223372036854775808 else 9223372036854775807) 0 (cutD s) with
  | none => rw [hg] at hr; cases hr
  | some u =>
    have hd := digits_back _ _ (cutD s) rfl h1 hall hz u hg
    cases hs : s with
    | nil => rw [hs] at h1; exact absurd cutD_nil.1 h1
    | cons c r =>
      rw [hs] at hd
      rw [(cutD_cons c r).1] at hd
      by_cases hc : c = 45
      · subst hc
        rw [if_pos rfl] at hd
        rw [(cutD_cons 45 r).2]
        show Lib.itoa (-(u : Int)) = 45 :: r
        have hu : 1 ≤ u := by
          rcases Nat.eq_zero_or_pos u with rfl | h
          · exfalso
            rw [decDigits_zero] at hd
            have hcut : cutD s = [48] := by rw [hs, (cutD_cons 45 r).1, if_pos rfl, ← hd]
            refine h3 ⟨by rw [hcut]; rfl, ?_⟩
            rw [hs]
            intro e
            have := (List.cons.inj e).1
            exact absurd this (by decide)
          · exact h
        rw [Lib.itoa_neg u hu, hd]
      · rw [if_neg hc] at hd
        rw [(cutD_cons c r).2, decide_eq_false hc]
        show Lib.itoa (u : Int) = c :: r
        rw [Lib.itoa_nonneg, hd]
theorem get_zero (s : List UInt8) (hr : (getV s).2 ≠ 0) : (getV s).1 = 0 := by
  unfold getV at hr ⊢
  split
  · rfl
  split
  · rfl
  split
  · rfl
  · rename_i h1 h2 h3
    rw [if_neg h1, if_neg h2, if_neg h3] at hr
    cases hg : getLoop (if isNeg s then 9223372036854775808 else 9223372036854775807) 0 (cutD s) with
    | none => rfl
    | some u => rw [hg] at hr; exact absurd rfl hr
theorem get_in (s : List UInt8) : -9223372036854775808 ≤ (getV s).1 ∧ (getV s).1 ≤ 9223372036854775807 := by
  have hle : ∀ (M : Nat) (l : List UInt8) (N u : Nat), N ≤ M → getLoop M N l = some u → u ≤ M := by
    intro M l
    induction l with
    | nil => intro N u hN h; simp only [getLoop, Option.some.injEq] at h; omega
    | cons c l ih =>
      intro N u hN h
      simp only [getLoop] at h
      split at h
      · cases h
      · exact ih _ u (by omega) h
  unfold getV
  split
  · decide
  split
  · decide
  split
  · decide
  · cases hn : isNeg s with
    | false =>
      cases hg : getLoop (if false = true then 9223372036854775808 else 9223372036854775807) 0 (cutD s) with
      | none => decide
      | some u =>
        have := hle _ _ _ _ (by omega) hg
        show -9223372036854775808 ≤ (u : Int) ∧ (u : Int) ≤ 9223372036854775807
        simp at this
        omega
    | true =>
      cases hg : getLoop (if true = true then 9223372036854775808 else 9223372036854775807) 0 (cutD s) with
      | none => decide
      | some u =>
        have := hle _ _ _ _ (by omega) hg
        show -9223372036854775808 ≤ -(u : Int) ∧ -(u : Int) ≤ 9223372036854775807
        simp at this
        omega
theorem span_digits (d r : List UInt8) (h : ∀ x ∈ d, isDig x = true) (hr : (r.takeWhile isDig) = []) : ((d ++ r).takeWhile isDig).length = d.length := by
  induction d with
  | nil => rw [List.nil_append, hr]
  | cons a d ih => rw [List.cons_append, List.takeWhile_cons, if_pos (h a (List.mem_cons_self ..)), List.length_cons, ih fun x hx => h x (List.mem_cons_of_mem _ hx), List.length_cons]
theorem span_itoa (n : Int) (r : List UInt8) (hr : (r.takeWhile isDig) = []) : spanL (Lib.itoa n ++ r) = (Lib.itoa n).length := by
  by_cases hn : n < 0
  · obtain ⟨u, rfl⟩ : ∃ u : Nat, n = -(u : Int) := ⟨n.natAbs, by omega⟩
    rw [Lib.itoa_neg u (by omega)]
    unfold spanL
    rw [if_pos (show (45 :: Lib.decDigits u ++ r).head? = some 45 from rfl)]
    show 1 + ((Lib.decDigits u ++ r).takeWhile isDig).length = _
    rw [span_digits _ r (decDigits_all u) hr, List.length_cons]
    omega
  · obtain ⟨u, rfl⟩ : ∃ u : Nat, n = (u : Int) := ⟨n.toNat, by omega⟩
    rw [Lib.itoa_nonneg]
    obtain ⟨c, q, e, hc⟩ := head_not_minus u
    unfold spanL
    rw [if_neg (by rw [e]; simpa using hc), span_digits _ r (decDigits_all u) hr]
theorem itoa_size (n : Int) (h0 : -9223372036854775808 ≤ n) (h1 : n ≤ 9223372036854775807) : (ByteArray.mk (Lib.itoa n).toArray).size ≤ 21 := by
  rw [size_mk]
  exact Lib.itoa_length_le n h0 h1
inductive TRes where
  | ok (h : List (List S61)) (n : Nat)
  | no (rest : List UInt8) (e : Int)
inductive Runs : List (List S61) → List S61 → Nat → List UInt8 → TRes → Prop where
  | done (out n) : Runs out [] n [] (.ok out n)
  | cut (out l n) (hl : l ≠ []) : Runs out l n [] (.no [] 2)
  | line (out l n r R) (h : Runs (out ++ [l]) [] n r R) : Runs out l n (10 :: r) R
  | bad (out l n c r) (hl : l ≠ []) (h1 : c ≠ 10) (h2 : c ≠ 32) : Runs out l n (c :: r) (.no (c :: r) 2)
  | op0 (out n c r x q R) (h1 : c ≠ 10) (ho : opL n (c :: r) = .ok x q) (h : Runs out [x] (n + 1) q R) : Runs out [] n (c :: r) R
  | no0 (out n c r q e) (h1 : c ≠ 10) (ho : opL n (c :: r) = .no q e) : Runs out [] n (c :: r) (.no q e)
  | op1 (out l n r x q R) (hl : l ≠ []) (ho : opL n r = .ok x q) (h : Runs out (l ++ [x]) (n + 1) q R) : Runs out l n (32 :: r) R
  | no1 (out l n r q e) (hl : l ≠ []) (ho : opL n r = .no q e) : Runs out l n (32 :: r) (.no q e)
theorem valL_len {w nm l x q} (h : valL w nm l = .ok x q) : q.length ≤ l.length := by
  unfold valL at h
  split at h
  · cases h; rw [List.length_drop]; omega
  · cases h
theorem nameL_len {w l x q} (h : nameL w l = .ok x q) : q.length ≤ l.length := by
  unfold nameL at h
  split at h
  · cases h
  · have hd : (l.drop (nameLen l)).length ≤ l.length := by rw [List.length_drop]; omega
    split at h
    · cases h
    · rename_i c r hr
      rw [hr] at hd
      split at h
      · have := valL_len h; simp only [List.length_cons] at hd; omega
      · cases h
theorem colonL_len {w l x q} (h : colonL w l = .ok x q) : q.length ≤ l.length := by
  cases l with
  | nil => cases h
  | cons c r =>
    simp only [colonL] at h
    split at h
    · have := nameL_len h; simp only [List.length_cons]; omega
    · cases h
theorem opL_len {n l x q} (h : opL n l = .ok x q) : q.length < l.length := by
  unfold opL at h
  split at h
  · cases h
  · cases l with
    | nil => cases h
    | cons c r =>
      simp only [oneL] at h
      split at h
      · have := colonL_len h; simp only [List.length_cons]; omega
      · split at h
        · have := colonL_len h; simp only [List.length_cons]; omega
        · cases h
theorem runs_ex : ∀ (m : Nat) (r : List UInt8) (out : List (List S61)) (l : List S61) (n : Nat), r.length < m → ∃ R, Runs out l n r R := by
  intro m
  induction m with
  | zero => intro r out l n h; omega
  | succ m ih =>
    intro r out l n h
    cases r with
    | nil =>
      by_cases hl : l = []
      · subst hl; exact ⟨_, .done out n⟩
      · exact ⟨_, .cut out l n hl⟩
    | cons c r =>
      simp only [List.length_cons] at h
      by_cases hc : c = 10
      · subst hc
        obtain ⟨R, hR⟩ := ih r (out ++ [l]) [] n (by omega)
        exact ⟨R, .line out l n r R hR⟩
      · by_cases hl : l = []
        · subst hl
          cases ho : opL n (c :: r) with
          | ok x q =>
            have := opL_len ho
            simp only [List.length_cons] at this
            obtain ⟨R, hR⟩ := ih q out [x] (n + 1) (by omega)
            exact ⟨R, .op0 out n c r x q R hc ho hR⟩
          | no q e => exact ⟨_, .no0 out n c r q e hc ho⟩
        · by_cases h2 : c = 32
          · subst h2
            cases ho : opL n r with
            | ok x q =>
              have := opL_len ho
              obtain ⟨R, hR⟩ := ih q out (l ++ [x]) (n + 1) (by omega)
              exact ⟨R, .op1 out l n r x q R hl ho hR⟩
            | no q e => exact ⟨_, .no1 out l n r q e hl ho⟩
          · exact ⟨_, .bad out l n c r hl hc h2⟩
def ansT (s : ByteArray) : TRes → List (List S61) × Int × Int
  | .ok h _ => (h, 0, 0)
  | .no rest e => ([], ((s.size - rest.length : Nat) : Int), e)

theorem told_suf {s : ByteArray} {q : List UInt8} (h1 : q.length ≤ s.size) (h2 : s.data.toList.drop (s.size - q.length) = q) : Suf s (s.size - q.length) q := ⟨by omega, h2⟩
theorem runs_cut {out l n r R} (h : Runs out l n r R) (hr : r = []) (hl : l ≠ []) : R = .no [] 2 := by
  cases h with
  | done => exact absurd rfl hl
  | cut => rfl
  | line => cases hr
  | bad => cases hr
  | op0 => cases hr
  | no0 => cases hr
  | op1 => cases hr
  | no1 => cases hr
def ToldR (s : ByteArray) (out : Option (Bool × ByteArray × Int × Int × Int)) : Res S61 → Prop
  | .ok x rest => rest.length ≤ s.size ∧ s.data.toList.drop (s.size - rest.length) = rest ∧ out = some (x.f0, x.f1, x.f2, ((s.size - rest.length : Nat) : Int), 0)
  | .no rest e => rest.length ≤ s.size ∧ (e = 2 ∨ e = 3) ∧ out = some (false, ⟨#[]⟩, 0, ((s.size - rest.length : Nat) : Int), e)
theorem one_j4t (s : ByteArray) (i : Int) (w : Bool) (n : ByteArray) (v : Int) (k : Nat) : eyewitnessref07_one.j4 (k + 1) s i true w n v = some (false, ⟨#[]⟩, 0, i, 2) := by
  rw [eyewitnessref07_one.j4, if_pos rfl]
theorem one_cut {s : ByteArray} {i : Nat} {r : List UInt8} (h2 : Suf s i r) (hs : s.size ≤ 1000000) (k : Nat) (hk : s.size + 20 ≤ k) :
    eyewitnessref05_Get.f k (s.extract i (i + spanL r)) = some (getV (r.take (spanL r))) := by
  have hx : (s.extract i (i + spanL r)).data.toList = r.take (spanL r) := by rw [Lib.extract_data, h2.eq, show i + spanL r - i = spanL r from by omega]
  have hsz : (s.extract i (i + spanL r)).size ≤ s.size := by rw [ByteArray.size_extract]; omega
  have hg := get_ref (s.extract i (i + spanL r)) (by omega) k (by omega)
  rw [hx] at hg
  exact hg
theorem one_j4e (s : ByteArray) (i : Nat) (hs : s.size ≤ 1000000) (m : Nat) (hm : i + 1 + m ≤ s.size) (w : Bool) (n : ByteArray) (v : Int) (k : Nat) (g : Int × Int)
    (hsp : eyewitnessref05_Span.f k s ((i + 1 : Nat) : Int) = some (m : Int)) (hg : eyewitnessref05_Get.f k (s.extract (i + 1) (i + 1 + m)) = some g) :
    eyewitnessref07_one.j4 (k + 1) s i false w n v = if g.2 = 0 then some (w, n, g.1, ((i + 1 + m : Nat) : Int), 0) else some (false, ⟨#[]⟩, 0, ((i + 1 : Nat) : Int), g.2) := by
  have q1 : (0 : Int) ≤ ((i + 1 : Nat) : Int) := by omega
  have q2 : ((i + 1 : Nat) : Int) ≤ ((i + 1 + m : Nat) : Int) := by omega
  have q3 : ((i + 1 + m : Nat) : Int) ≤ (s.size : Int) := by omega
  have hw : wrap64 (((i + 1 : Nat) : Int) + (m : Int)) = ((i + 1 + m : Nat) : Int) := by rw [w64 (by omega) (by omega)]; omega
  have hs1 : wrap64 ((i : Int) + 1) = ((i + 1 : Nat) : Int) := succ_val i (by omega)
  rw [eyewitnessref07_one.j4, if_neg Bool.false_ne_true, hs1, hsp, Option.bind_some, hw, if_pos q1, if_pos q2, if_pos q3, Int.toNat_natCast, Int.toNat_natCast, hg, Option.bind_some]
theorem one_j4 {s : ByteArray} {i : Nat} {c : UInt8} {r : List UInt8} (h : Suf s i (c :: r)) (hs : s.size ≤ 1000000) (hc : c = 61) (w : Bool) (n : ByteArray) (v : Int) (k : Nat) (hk : s.size + 22 ≤ k) :
    ToldR s (eyewitnessref07_one.j4 k s i false w n v) (valL w n r) := by
  obtain ⟨k, rfl⟩ : ∃ q, k = q + 1 := ⟨k - 1, by omega⟩
  have hlt := h.lt
  have h2 := h.tail
  have h5 := h2.drop (spanL r) (spanL_le r)
  have hle5 := h5.le
  have hsp := span_ref s ((i + 1 : Nat) : Int) (by omega) k (by omega)
  rw [h2.span] at hsp
  rw [one_j4e s i hs (spanL r) hle5 w n v k _ hsp (one_cut h2 hs k (by omega))]
  unfold valL
  by_cases hv : (getV (r.take (spanL r))).2 = 0
  · rw [if_pos hv, if_pos hv]
    refine ⟨h5.at.2, by rw [h5.at.1]; exact h5.eq, ?_⟩
    rw [h5.at.1]
  · rw [if_neg hv, if_neg hv]
    exact ⟨h2.at.2, (getV_err _).resolve_left hv, by rw [h2.at.1]⟩
theorem one_l0 (s : ByteArray) (hs : s.size ≤ 1000000) (i : Nat) (w : Bool) (n : ByteArray) (v : Int) : ∀ (d m k : Nat) (r : List UInt8), d = 8 - m → m ≤ 8 → d < k → Suf s (i + m) r →
    ∃ k', k ≤ k' + d + 1 ∧ eyewitnessref07_one.l0 k s i (m : Nat) w n v = eyewitnessref07_one.j3 k' s i ((m + ((r.take (8 - m)).takeWhile isLow).length : Nat) : Int) w n v := by
  intro d
  induction d with
  | zero =>
    intro m k r hd hm hk hS
    obtain ⟨k, rfl⟩ : ∃ q, k = q + 1 := ⟨k - 1, by omega⟩
    have hm8 : m = 8 := by omega
    subst hm8
    refine ⟨k, by omega, ?_⟩
    rw [eyewitnessref07_one.l0, if_neg (by omega)]
    simp
  | succ d ih =>
    intro m k r hd hm hk hS
    obtain ⟨k, rfl⟩ : ∃ q, k = q + 1 := ⟨k - 1, by omega⟩
    have hle := hS.le
    have hw : wrap64 ((i : Int) + (m : Nat)) = ((i + m : Nat) : Int) := by rw [w64 (by omega) (by omega)]; omega
    rw [eyewitnessref07_one.l0, if_pos (by omega), hw]
    cases r with
    | nil =>
      have := hS.nil
      refine ⟨k, by omega, ?_⟩
      rw [if_neg (show ¬ ((i + m : Nat) : Int) < s.size by omega), List.take_nil, List.takeWhile_nil, List.length_nil, Nat.add_zero]
    | cons c r =>
      have hlt := hS.lt
      rw [if_pos (by omega), if_pos (by omega), hS.bt]
      rw [show 8 - m = (7 - m) + 1 from by omega, List.take_succ_cons, List.takeWhile_cons]
      by_cases h1 : 97 ≤ c.toNat
      · rw [if_pos (by omega)]
        by_cases h2 : c.toNat ≤ 122
        · rw [if_pos (by omega), if_pos (by simp [isLow, h1, h2]), succ_val _ (by omega)]
          obtain ⟨k', hk', e⟩ := ih (m + 1) k r (by omega) (by omega) (by omega) (by rw [← Nat.add_assoc]; exact hS.tail)
          refine ⟨k', by omega, ?_⟩
          rw [e, show 8 - (m + 1) = 7 - m from by omega, List.length_cons]
          generalize ((r.take (7 - m)).takeWhile isLow).length = q
          rw [show m + 1 + q = m + (q + 1) from by omega]
        · refine ⟨k, by omega, ?_⟩
          rw [if_neg (show ¬ (c.toNat : Int) ≤ 122 by omega), if_neg (show ¬ isLow c = true by simp [isLow, h2]), List.length_nil, Nat.add_zero]
      · refine ⟨k, by omega, ?_⟩
        rw [if_neg (show ¬ (c.toNat : Int) ≥ 97 by omega), if_neg (show ¬ isLow c = true by simp [isLow, h1]), List.length_nil, Nat.add_zero]
theorem one_name {s : ByteArray} {i : Nat} {r : List UInt8} (h : Suf s i r) (hs : s.size ≤ 1000000) (w : Bool) (n : ByteArray) (k : Nat) (hk : s.size + 34 ≤ k) :
    ToldR s (eyewitnessref07_one.l0 k s i 0 w n 0) (nameL w r) := by
  have hle := h.le
  obtain ⟨k', hk', e⟩ := one_l0 s hs i w n 0 8 0 k r rfl (by omega) (by omega) h
  rw [show ((0 : Nat) : Int) = 0 from rfl, Nat.zero_add] at e
  rw [show ((r.take (8 - 0)).takeWhile isLow).length = nameLen r from rfl] at e
  rw [e]
  obtain ⟨k', rfl⟩ : ∃ q, k' = q + 2 := ⟨k' - 2, by omega⟩
  have hnle : nameLen r ≤ r.length := Nat.le_trans (List.takeWhile_sublist isLow).length_le (List.length_take_le' _ _)
  have h3 := h.drop (nameLen r) hnle
  have hle3 := h3.le
  have hw : wrap64 ((i : Int) + (nameLen r : Nat)) = ((i + nameLen r : Nat) : Int) := by rw [w64 (by omega) (by omega)]; omega
  have hnm2 : s.extract i (i + nameLen r) = mkB (r.take (nameLen r)) := by
    apply ba_ext
    rw [Lib.extract_data, h.eq, show i + nameLen r - i = nameLen r from by omega]
    rfl
  rw [eyewitnessref07_one.j3, hw, if_pos (by omega), if_pos (by omega), if_pos (by omega), Int.toNat_natCast, Int.toNat_natCast, hnm2]
  unfold nameL
  by_cases hn : nameLen r = 0
  · rw [if_pos (by omega), if_pos hn, one_j4t]
    exact ⟨h.at.2, .inl rfl, by rw [h.at.1, hn, Nat.add_zero]⟩
  · rw [if_neg (by omega), if_neg hn]
    cases hr3 : r.drop (nameLen r) with
    | nil =>
      rw [hr3] at h3
      have := h3.nil
      rw [if_pos (by omega), one_j4t]
      exact ⟨h3.at.2, .inl rfl, by rw [h3.at.1]⟩
    | cons c2 r2 =>
      rw [hr3] at h3
      have := h3.lt
      show ToldR s _ (if c2 = 61 then valL w (mkB (r.take (nameLen r))) r2 else .no (c2 :: r2) 2)
      rw [if_neg (by omega), if_pos (by omega), if_pos (by omega), h3.bt]
      by_cases hc : c2 = 61
      · rw [if_pos hc, show ((c2.toNat : Int) != 61) = false by rw [hc]; rfl]
        exact one_j4 h3 hs hc w _ 0 _ (by omega)
      · rw [if_neg hc, show ((c2.toNat : Int) != 61) = true by simpa using fun hh => hc ((@toNat_eq c2 61 (by omega)).1 hh), one_j4t]
        exact ⟨h3.at.2, .inl rfl, by rw [h3.at.1]⟩
theorem one_ok {s : ByteArray} {i : Nat} {r : List UInt8} (h : Suf s i r) (hs : s.size ≤ 1000000) (k : Nat) (hk : s.size + 40 ≤ k) : ToldR s (eyewitnessref07_one.f k s i) (oneL r) := by
  obtain ⟨k, rfl⟩ : ∃ q, k = q + 2 := ⟨k - 2, by omega⟩
  have hle := h.le
  have hbad : eyewitnessref07_one.j0 (k + 2) s i true = some (false, ⟨#[]⟩, 0, (i : Int), 2) := by rw [eyewitnessref07_one.j0, if_pos rfl]
  unfold eyewitnessref07_one.f
  cases r with
  | nil =>
    have := h.nil
    rw [if_pos (by omega), hbad]
    exact ⟨h.at.2, .inl rfl, by rw [h.at.1]⟩
  | cons c r =>
    have hlt := h.lt
    have hgo : (c = 119 ∨ c = 114) → ToldR s (eyewitnessref07_one.j0 (k + 2) s i false) (colonL (decide (c = 119)) r) := by
      intro hc
      have hw : ((c.toNat : Int) == 119) = decide (c = 119) := by
        rcases hc with rfl | rfl <;> rfl
      have h2 := h.tail
      rw [eyewitnessref07_one.j0, if_neg (by simp), if_pos (by omega), if_pos (by omega), succ_val i (by omega), h.bt, hw]
      cases r with
      | nil =>
        have := h2.nil
        rw [if_pos (by omega), eyewitnessref07_one.j1, if_pos rfl]
        exact ⟨h2.at.2, .inl rfl, by rw [h2.at.1]⟩
      | cons c2 r2 =>
        have := h2.lt
        show ToldR s _ (if c2 = 58 then nameL _ r2 else .no (c2 :: r2) 2)
        rw [if_neg (by omega), if_pos (by omega), if_pos (by omega), h2.bt]
        by_cases hc2 : c2 = 58
        · rw [if_pos hc2, show ((c2.toNat : Int) != 58) = false by rw [hc2]; rfl, eyewitnessref07_one.j1, if_neg (by simp), succ_val _ (by omega)]
          exact one_name h2.tail hs _ _ k (by omega)
        · rw [if_neg hc2, show ((c2.toNat : Int) != 58) = true by simpa using fun hh => hc2 ((@toNat_eq c2 58 (by omega)).1 hh), eyewitnessref07_one.j1, if_pos rfl]
          exact ⟨h2.at.2, .inl rfl, by rw [h2.at.1]⟩
    show ToldR s _ (if c = 119 then colonL true r else if c = 114 then colonL false r else .no (c :: r) 2)
    rw [if_neg (by omega), if_pos (by omega), if_pos (by omega), h.bt]
    by_cases h1 : c = 119
    · rw [if_pos (show (c.toNat : Int) = 119 by rw [h1]; rfl), if_pos h1]
      have := hgo (.inl h1)
      rw [show decide (c = 119) = true by simpa using h1] at this
      exact this
    · rw [if_neg (show ¬ (c.toNat : Int) = 119 from fun hh => h1 ((@toNat_eq c 119 (by omega)).1 hh)), if_neg h1]
      by_cases h2 : c = 114
      · rw [if_pos h2, show ((c.toNat : Int) != 114) = false by rw [h2]; rfl]
        have := hgo (.inr h2)
        rw [show decide (c = 119) = false by simpa using h1] at this
        exact this
      · rw [if_neg h2, show ((c.toNat : Int) != 114) = true by simpa using fun hh => h2 ((@toNat_eq c 114 (by omega)).1 hh), hbad]
        exact ⟨h.at.2, .inl rfl, by rw [h.at.1]⟩

theorem ref_j3 {s : ByteArray} {i : Nat} {r : List UInt8} (h : Suf s i r) (hs : s.size ≤ 1000000) (out : List (List S61)) (l : List S61) (n : Nat) (hn : n ≤ 1000000) (hl : l.length ≤ 2000000) (k : Nat) (hk : s.size + 40 ≤ k) :
    (∀ q e, oneL r = .no q e → eyewitnessref07_Text.j3 (k + 1) s out i n l false = some ([], ((s.size - q.length : Nat) : Int), e)) ∧
    (∀ x q, oneL r = .ok x q → Suf s (s.size - q.length) q ∧ (q = [] → eyewitnessref07_Text.j3 (k + 1) s out i n l false = some ([], (s.size : Int), 2)) ∧ (q ≠ [] → eyewitnessref07_Text.j3 (k + 1) s out i n l false = eyewitnessref07_Text.l1 k s out ((s.size - q.length : Nat) : Int) ((n + 1 : Nat) : Int) (l ++ [x]))) := by
  have ho := one_ok h hs k hk
  refine ⟨fun q e he => ?_, fun x q he => ?_⟩
  · rw [he] at ho
    obtain ⟨t1, t2, t3⟩ := ho
    rw [eyewitnessref07_Text.j3, if_neg Bool.false_ne_true, t3]
    simp only [Option.bind_some]
    rw [if_neg (by omega)]
  · rw [he] at ho
    obtain ⟨t1, t2, t3⟩ := ho
    have hS := told_suf t1 t2
    refine ⟨hS, fun hq => ?_, fun hq => ?_⟩
    · subst hq
      rw [eyewitnessref07_Text.j3, if_neg Bool.false_ne_true, t3]
      simp only [Option.bind_some]
      rw [if_pos trivial, if_pos (by omega)]
      simp
    · have hpos : 0 < q.length := List.length_pos_iff.2 hq
      rw [eyewitnessref07_Text.j3, if_neg Bool.false_ne_true, t3]
      simp only [Option.bind_some]
      rw [if_pos trivial, if_pos (by omega), if_neg (by omega), succ_val n (by omega)]
theorem ref_j2 {s : ByteArray} {i : Nat} {r : List UInt8} (h : Suf s i r) (hs : s.size ≤ 1000000) (out : List (List S61)) (l : List S61) (n : Nat) (hn : n ≤ 1000000) (hl : l.length ≤ 2000000) (k : Nat) (hk : s.size + 40 ≤ k) :
    (∀ q e, opL n r = .no q e → eyewitnessref07_Text.j2 (k + 2) s out i n l = some ([], ((s.size - q.length : Nat) : Int), e)) ∧
    (∀ x q, opL n r = .ok x q → Suf s (s.size - q.length) q ∧ (q = [] → eyewitnessref07_Text.j2 (k + 2) s out i n l = some ([], (s.size : Int), 2)) ∧ (q ≠ [] → eyewitnessref07_Text.j2 (k + 2) s out i n l = eyewitnessref07_Text.l1 k s out ((s.size - q.length : Nat) : Int) ((n + 1 : Nat) : Int) (l ++ [x]))) := by
  have hle := h.le
  have hj := ref_j3 h hs out l n hn hl k hk
  have hf : ¬ (n = 4096 ∧ (r.head? = some 119 ∨ r.head? = some 114)) → eyewitnessref07_Text.j2 (k + 2) s out i n l = eyewitnessref07_Text.j3 (k + 1) s out i n l false := by
    intro hno
    rw [eyewitnessref07_Text.j2]
    by_cases h4 : n = 4096
    · rw [if_pos (by omega)]
      cases r with
      | nil =>
        have := h.nil
        rw [if_neg (by omega)]
      | cons c r =>
        have := h.lt
        have h1 : ¬ c = 119 := fun e => hno ⟨h4, .inl (by rw [e]; rfl)⟩
        have h2 : ¬ c = 114 := fun e => hno ⟨h4, .inr (by rw [e]; rfl)⟩
        rw [if_pos (by omega), if_pos (by omega), h.bt, if_neg (show ¬ (c.toNat : Int) = 119 from fun hh => h1 ((@toNat_eq c 119 (by omega)).1 hh)), show ((c.toNat : Int) == 114) = false by simpa using fun hh => h2 ((@toNat_eq c 114 (by omega)).1 hh)]
    · rw [if_neg (by omega)]
  by_cases hb : n = 4096 ∧ (r.head? = some 119 ∨ r.head? = some 114)
  · have hop : opL n r = .no r 3 := if_pos hb
    rw [hop]
    refine ⟨fun q e he => ?_, fun x q he => by cases he⟩
    cases he
    cases r with
    | nil => rcases hb.2 with h | h <;> cases h
    | cons c r =>
      have := h.lt
      have hc : c = 119 ∨ c = 114 := hb.2.imp (fun h => Option.some.inj h) (fun h => Option.some.inj h)
      have ht : eyewitnessref07_Text.j3 (k + 1) s out i n l true = some ([], (i : Int), 3) := by rw [eyewitnessref07_Text.j3, if_pos rfl]
      rw [eyewitnessref07_Text.j2, if_pos (by omega), if_pos (by omega), if_pos (by omega), h.bt, h.at.1]
      rcases hc with rfl | rfl
      · rw [if_pos (show ((119 : UInt8).toNat : Int) = 119 from rfl)]; exact ht
      · rw [if_neg (by decide)]; exact ht
  · have hop : opL n r = oneL r := if_neg hb
    rw [hop, hf hb]
    exact hj
theorem ref_runs (s : ByteArray) (hs : s.size ≤ 1000000) {out l n r R} (hR : Runs out l n r R) : ∀ i, Suf s i r → out.length + r.length ≤ 2000000 → l.length + r.length ≤ 2000000 → n + r.length ≤ 1000000 →
    (r ≠ [] → ∀ k, 4 * r.length + s.size + 60 ≤ k → eyewitnessref07_Text.l1 k s out i n l = some (ansT s R)) ∧ (l = [] → ∀ k, 4 * r.length + s.size + 61 ≤ k → eyewitnessref07_Text.l0 k s out i n = some (ansT s R)) := by
  have hstep : ∀ {out l n c r R} {i : Nat}, Suf s i (c :: r) → (∀ k, 4 * (c :: r).length + s.size + 60 ≤ k → eyewitnessref07_Text.l1 k s out i n l = some (ansT s R)) →
      ((c :: r) ≠ [] → ∀ k, 4 * (c :: r).length + s.size + 60 ≤ k → eyewitnessref07_Text.l1 k s out i n l = some (ansT s R)) ∧ (l = [] → ∀ k, 4 * (c :: r).length + s.size + 61 ≤ k → eyewitnessref07_Text.l0 k s out i n = some (ansT s R)) := by
    intro out l n c r R i hS h1
    refine ⟨fun _ => h1, fun hl k hk => ?_⟩
    obtain ⟨k, rfl⟩ : ∃ q, k = q + 1 := ⟨k - 1, by omega⟩
    subst hl
    have := hS.lt
    rw [eyewitnessref07_Text.l0, if_pos (by omega)]
    exact h1 k (by omega)
  induction hR with
  | done out n =>
    intro i hi h1 h2 h3
    refine ⟨fun h => absurd rfl h, fun _ k hk => ?_⟩
    obtain ⟨k, rfl⟩ : ∃ q, k = q + 1 := ⟨k - 1, by omega⟩
    have := hi.nil
    rw [eyewitnessref07_Text.l0, if_neg (by omega)]
    rfl
  | cut out l n hl =>
    intro i hi h1 h2 h3
    exact ⟨fun h => absurd rfl h, fun h => absurd h hl⟩
  | line out l n r R h ih =>
    intro i hi h1 h2 h3
    refine hstep hi fun k hk => ?_
    simp only [List.length_cons] at h1 h2 h3 hk
    obtain ⟨k, rfl⟩ : ∃ q, k = q + 1 := ⟨k - 1, by omega⟩
    have hh := (ih (i + 1) hi.tail (by simp only [List.length_append, List.length_cons, List.length_nil]; omega) (by simp only [List.length_nil]; omega) (by omega)).2 rfl
    have hlt := hi.lt
    rw [eyewitnessref07_Text.l1, if_pos (by omega), if_pos (by omega), hi.bt, if_pos (show ((10 : UInt8).toNat : Int) = 10 from rfl), if_pos (by omega), succ_val i (by omega)]
    exact hh k (by omega)
  | bad out l n c r hl h1 h2 =>
    intro i hi h3 h4 h5
    refine hstep hi fun k hk => ?_
    obtain ⟨k, rfl⟩ : ∃ q, k = q + 1 := ⟨k - 1, by omega⟩
    have hlt := hi.lt
    have hpos : 0 < l.length := List.length_pos_iff.2 hl
    rw [eyewitnessref07_Text.l1, if_pos (by omega), if_pos (by omega), hi.bt, if_neg (show ¬ (c.toNat : Int) = 10 from fun hh => h1 ((@toNat_eq c 10 (by omega)).1 hh)), if_pos (by omega), if_neg (show ¬ (c.toNat : Int) = 32 from fun hh => h2 ((@toNat_eq c 32 (by omega)).1 hh))]
    simp only [ansT, hi.at.1]
  | op0 out n c r x q R h1 ho h ih =>
    intro i hi h3 h4 h5
    refine hstep hi fun k hk => ?_
    obtain ⟨k, rfl⟩ : ∃ q, k = q + 3 := ⟨k - 3, by omega⟩
    have hlt := hi.lt
    have hq := opL_len ho
    simp only [List.length_cons] at h3 h4 h5 hk hq
    obtain ⟨hS, g1, g2⟩ := (ref_j2 hi hs out [] n (by omega) (by simp) k (by omega)).2 x q ho
    rw [eyewitnessref07_Text.l1, if_pos (by omega), if_pos (by omega), hi.bt, if_neg (show ¬ (c.toNat : Int) = 10 from fun hh => h1 ((@toNat_eq c 10 (by omega)).1 hh)), if_neg (by simp)]
    by_cases hq0 : q = []
    · rw [g1 hq0]
      rw [runs_cut h hq0 (by simp)]
      rfl
    · rw [g2 hq0]
      exact (ih _ hS (by omega) (by simp only [List.length_cons, List.length_nil]; omega) (by omega)).1 hq0 k (by omega)
  | no0 out n c r q e h1 ho =>
    intro i hi h3 h4 h5
    refine hstep hi fun k hk => ?_
    obtain ⟨k, rfl⟩ : ∃ q, k = q + 3 := ⟨k - 3, by omega⟩
    have hlt := hi.lt
    simp only [List.length_cons] at h3 h4 h5 hk
    rw [eyewitnessref07_Text.l1, if_pos (by omega), if_pos (by omega), hi.bt, if_neg (show ¬ (c.toNat : Int) = 10 from fun hh => h1 ((@toNat_eq c 10 (by omega)).1 hh)), if_neg (by simp)]
    exact (ref_j2 hi hs out [] n (by omega) (by simp) k (by omega)).1 q e ho
  | op1 out l n r x q R hl ho h ih =>
    intro i hi h3 h4 h5
    refine hstep hi fun k hk => ?_
    obtain ⟨k, rfl⟩ : ∃ q, k = q + 3 := ⟨k - 3, by omega⟩
    have hlt := hi.lt
    have hq := opL_len ho
    have hpos : 0 < l.length := List.length_pos_iff.2 hl
    simp only [List.length_cons] at h3 h4 h5 hk hq
    obtain ⟨hS, g1, g2⟩ := (ref_j2 hi.tail hs out l n (by omega) (by omega) k (by omega)).2 x q ho
    rw [eyewitnessref07_Text.l1, if_pos (by omega), if_pos (by omega), hi.bt, if_neg (by decide), if_pos (by omega), if_pos (show ((32 : UInt8).toNat : Int) = 32 from rfl), succ_val i (by omega)]
    by_cases hq0 : q = []
    · rw [g1 hq0]
      rw [runs_cut h hq0 (by simp)]
      rfl
    · rw [g2 hq0]
      exact (ih _ hS (by omega) (by simp only [List.length_append, List.length_cons, List.length_nil]; omega) (by omega)).1 hq0 k (by omega)
  | no1 out l n r q e hl ho =>
    intro i hi h3 h4 h5
    refine hstep hi fun k hk => ?_
    obtain ⟨k, rfl⟩ : ∃ q, k = q + 3 := ⟨k - 3, by omega⟩
    have hlt := hi.lt
    have hpos : 0 < l.length := List.length_pos_iff.2 hl
    simp only [List.length_cons] at h3 h4 h5 hk
    rw [eyewitnessref07_Text.l1, if_pos (by omega), if_pos (by omega), hi.bt, if_neg (by decide), if_pos (by omega), if_pos (show ((32 : UInt8).toNat : Int) = 32 from rfl), succ_val i (by omega)]
    exact (ref_j2 hi.tail hs out l n (by omega) (by omega) k (by omega)).1 q e ho
theorem rd_L4_nat (a : List (List S61)) (i : Nat) (h : i < a.length) : rd_L4 a (i : Int) = a[i] := by
  unfold rd_L4
  rw [Int.toNat_natCast, List.getD_eq_getElem?_getD, List.getElem?_eq_getElem h]
  rfl
theorem same_l1 (a : List (List S61)) (B : Nat) (hB : B ≤ 4000000) (ha : a.length ≤ B) (hr : ∀ x ∈ a, x.length ≤ B) (i : Nat) (hi : i < a.length) (hn : ∃ k, eyewitnessref06_Same.l0 k a a ((i + 1 : Nat) : Int) = some true) :
    ∀ (d j : Nat), d = (a[i]).length - j → j ≤ (a[i]).length → ∃ k, eyewitnessref06_Same.l1 k a a (i : Int) (j : Int) = some true := by
  have hx := hr _ (List.getElem_mem hi)
  intro d
  induction d with
  | zero =>
    intro j hd hj
    obtain ⟨k, hk⟩ := hn
    refine ⟨k + 1, ?_⟩
    rw [eyewitnessref06_Same.l1, rd_L4_nat a i hi, if_pos (by omega), if_pos (by omega), if_neg (by omega), succ_val i (by omega)]
    exact hk
  | succ d ih =>
    intro j hd hj
    obtain ⟨k, hk⟩ := ih (j + 1) (by omega) (by omega)
    refine ⟨k + 1, ?_⟩
    rw [eyewitnessref06_Same.l1, rd_L4_nat a i hi, if_pos (by omega), if_pos (by omega), if_pos (by omega), if_pos (by omega), if_pos (by omega), if_pos (by omega), succ_val j (by omega)]
    rw [if_neg (by simp)]
    exact hk
theorem same_l0 (a : List (List S61)) (B : Nat) (hB : B ≤ 4000000) (ha : a.length ≤ B) (hr : ∀ x ∈ a, x.length ≤ B) : ∀ (d i : Nat), d = a.length - i → i ≤ a.length → ∃ k, eyewitnessref06_Same.l0 k a a (i : Int) = some true := by
  intro d
  induction d with
  | zero =>
    intro i hd hi
    refine ⟨1, ?_⟩
    rw [eyewitnessref06_Same.l0, if_neg (by omega)]
  | succ d ih =>
    intro i hd hi
    have hlt : i < a.length := by omega
    obtain ⟨k, hk⟩ := same_l1 a B hB ha hr i hlt (ih (i + 1) (by omega) (by omega)) _ 0 rfl (Nat.zero_le _)
    refine ⟨k + 1, ?_⟩
    rw [eyewitnessref06_Same.l0, if_pos (by omega), if_pos (by omega), if_pos (by omega), if_pos rfl]
    exact hk
theorem same_refl (a : List (List S61)) (B : Nat) (hB : B ≤ 4000000) (ha : a.length ≤ B) (hr : ∀ x ∈ a, x.length ≤ B) : ∃ k, eyewitnessref06_Same.f k a a = some true := by
  obtain ⟨k, hk⟩ := same_l0 a B hB ha hr _ 0 rfl (Nat.zero_le _)
  refine ⟨k, ?_⟩
  unfold eyewitnessref06_Same.f
  rw [if_pos rfl]
  exact hk
/-- What a text that is read can be: its lines' number, its lines' sizes, the operations' number. -/
theorem runs_size {out l n r R} (hR : Runs out l n r R) : ∀ (B : Nat) (h : List (List S61)) (m : Nat), R = .ok h m → (∀ x ∈ out, x.length ≤ B) → l.length + r.length ≤ B → (∀ x ∈ h, x.length ≤ B) ∧ h.length ≤ out.length + r.length := by
  induction hR with
  | done out n => intro B h m e h1 h2; cases e; exact ⟨h1, by omega⟩
  | cut => intro B h m e; cases e
  | line out l n r R h ih =>
    intro B h m e h1 h2
    simp only [List.length_cons] at h2 ⊢
    have := ih B h m e (fun x hx => by
      rcases List.mem_append.1 hx with hx | hx
      · exact h1 x hx
      · rw [List.mem_singleton] at hx; rw [hx]; omega) (by simp only [List.length_nil]; omega)
    refine ⟨this.1, ?_⟩
    have h3 := this.2
    simp only [List.length_append, List.length_cons, List.length_nil] at h3
    omega
  | bad => intro B h m e; cases e
  | op0 out n c r x q R h1 ho h ih =>
    intro B h m e h2 h3
    have hq := opL_len ho
    simp only [List.length_cons] at h3 hq ⊢
    have := ih B h m e h2 (by simp only [List.length_cons, List.length_nil]; omega)
    exact ⟨this.1, by omega⟩
  | no0 => intro B h m e; cases e
  | op1 out l n r x q R hl ho h ih =>
    intro B h m e h2 h3
    have hq := opL_len ho
    simp only [List.length_cons] at h3 hq ⊢
    have := ih B h m e h2 (by simp only [List.length_append, List.length_cons, List.length_nil]; omega)
    exact ⟨this.1, by omega⟩
  | no1 => intro B h m e; cases e
theorem ref_text (s : ByteArray) (hs : s.size ≤ 1000000) {R} (hR : Runs [] [] 0 s.data.toList R) : ∃ k, eyewitnessref07_Text.f k s = some (ansT s R) := by
  refine ⟨4 * s.data.toList.length + s.size + 61, ?_⟩
  have hl : s.data.toList.length = s.size := (size_list s).symm
  exact (ref_runs s hs hR 0 (Suf.start s) (by simp only [List.length_nil]; omega) (by simp only [List.length_nil]; omega) (by omega)).2 rfl _ (Nat.le_refl _)
theorem valL_no {w nm l q e} (h : valL w nm l = .no q e) : (e = 2 ∨ e = 3) ∧ q.length ≤ l.length := by
  unfold valL at h
  split at h
  · cases h
  · rename_i hv
    obtain ⟨rfl, rfl⟩ := Res.no.inj h
    exact ⟨(getV_err _).resolve_left hv, Nat.le_refl _⟩
theorem nameL_no {w l q e} (h : nameL w l = .no q e) : (e = 2 ∨ e = 3) ∧ q.length ≤ l.length := by
  unfold nameL at h
  split at h
  · obtain ⟨rfl, rfl⟩ := Res.no.inj h
    exact ⟨.inl rfl, Nat.le_refl _⟩
  · have hd : (l.drop (nameLen l)).length ≤ l.length := by rw [List.length_drop]; omega
    split at h
    · obtain ⟨rfl, rfl⟩ := Res.no.inj h
      exact ⟨.inl rfl, Nat.zero_le _⟩
    · rename_i c r hr
      rw [hr] at hd
      split at h
      · have := valL_no h; simp only [List.length_cons] at hd; exact ⟨this.1, by omega⟩
      · obtain ⟨rfl, rfl⟩ := Res.no.inj h
        exact ⟨.inl rfl, hd⟩
theorem colonL_no {w l q e} (h : colonL w l = .no q e) : (e = 2 ∨ e = 3) ∧ q.length ≤ l.length := by
  cases l with
  | nil => obtain ⟨rfl, rfl⟩ := Res.no.inj h; exact ⟨.inl rfl, Nat.le_refl _⟩
  | cons c r =>
    simp only [colonL] at h
    split at h
    · have := nameL_no h; simp only [List.length_cons]; exact ⟨this.1, by omega⟩
    · obtain ⟨rfl, rfl⟩ := Res.no.inj h; exact ⟨.inl rfl, Nat.le_refl _⟩
theorem opL_no {n l q e} (h : opL n l = .no q e) : (e = 2 ∨ e = 3) ∧ q.length ≤ l.length := by
  unfold opL at h
  split at h
  · obtain ⟨rfl, rfl⟩ := Res.no.inj h; exact ⟨.inr rfl, Nat.le_refl _⟩
  · cases l with
    | nil => obtain ⟨rfl, rfl⟩ := Res.no.inj h; exact ⟨.inl rfl, Nat.le_refl _⟩
    | cons c r =>
      simp only [oneL] at h
      split at h
      · have := colonL_no h; simp only [List.length_cons]; exact ⟨this.1, by omega⟩
      · split at h
        · have := colonL_no h; simp only [List.length_cons]; exact ⟨this.1, by omega⟩
        · obtain ⟨rfl, rfl⟩ := Res.no.inj h; exact ⟨.inl rfl, Nat.le_refl _⟩
theorem runs_no {out l n r R} (hR : Runs out l n r R) : ∀ (q : List UInt8) (e : Int), R = .no q e → (e = 2 ∨ e = 3) ∧ q.length ≤ r.length := by
  induction hR with
  | done out n => intro q e h; cases h
  | cut => intro q e h; cases h; exact ⟨.inl rfl, Nat.le_refl _⟩
  | line out l n r R h ih => intro q e hh; have := ih q e hh; simp only [List.length_cons]; exact ⟨this.1, by omega⟩
  | bad => intro q e h; cases h; exact ⟨.inl rfl, Nat.le_refl _⟩
  | op0 out n c r x q R h1 ho h ih => intro q' e hh; have := ih q' e hh; have := opL_len ho; exact ⟨(ih q' e hh).1, by omega⟩
  | no0 out n c r q e h1 ho => intro q' e' h; cases h; exact opL_no ho
  | op1 out l n r x q R hl ho h ih => intro q' e hh; have := ih q' e hh; have := opL_len ho; simp only [List.length_cons]; exact ⟨(ih q' e hh).1, by omega⟩
  | no1 out l n r q e hl ho => intro q' e' h; cases h; have := opL_no ho; simp only [List.length_cons]; exact ⟨this.1, by omega⟩

end Go.Proofs.YtcabnjinfkjnjaaDoor.XH
