/- THE PLAIN LAWS OF HIST, the spots of a history. -/
import Derived.Test.YtcabnjinfkjnjaaDoorPureHist
import Derived.Test.YtcabnjinfkjnjaaDoorGSpot
namespace Go.Proofs.YtcabnjinfkjnjaaDoor.XH
open Go.RowKit Go.Proofs.YtcabnjinfkjnjaaDoorW.PrintWords Go.Proofs.YtcabnjinfkjnjaaDoorW.PrintLast Go.Proofs.YtcabnjinfkjnjaaDoor.X
set_option linter.unusedVariables false

/-! ### spots -/
theorem spotsTo_len (h : List (List S61)) : ∀ k, k ≤ h.length → (spotsTo h k).length = sumTo h k
  | 0, _ => rfl
  | k + 1, hk => by rw [spotsTo_succ, List.length_append, spotsOf_len, spotsTo_len h k (by omega), sumTo_succ h (by omega)]
theorem spotsL_len (h : List (List S61)) : (spotsL h).length = h.flatten.length := by unfold spotsL; rw [spotsTo_len h _ (Nat.le_refl _), sumTo_all]
theorem spotsOf_get (s n i : Nat) (h : i < n) : (spotsOf s n)[i]? = some (s, i) := by
  unfold spotsOf
  rw [List.getElem?_map, List.getElem?_range h]
  rfl
/-- Where a spot stands among the spots. -/
theorem spotsTo_at (h : List (List S61)) : ∀ k, k ≤ h.length → ∀ i x, (spotsTo h k)[i]? = some x → x.1 < k ∧ x.2 < (rd_L4 h (x.1 : Int)).length ∧ i = sumTo h x.1 + x.2
  | 0, _, i, x, hx => by simp [spotsTo] at hx
  | k + 1, hk, i, x, hx => by
    rw [spotsTo_succ] at hx
    rcases Nat.lt_or_ge i (spotsTo h k).length with hi | hi
    · rw [List.getElem?_append_left hi] at hx
      obtain ⟨h1, h2, h3⟩ := spotsTo_at h k (by omega) i x hx
      exact ⟨by omega, h2, h3⟩
    · rw [List.getElem?_append_right hi] at hx
      rw [spotsTo_len h k (by omega)] at hx hi
      have hlt : i - sumTo h k < (rd_L4 h (k : Int)).length := by
        have := (List.getElem?_eq_some_iff.1 hx).1
        rwa [spotsOf_len] at this
      rw [spotsOf_get _ _ _ hlt] at hx
      obtain rfl := Option.some.inj hx
      exact ⟨by omega, hlt, by show i = sumTo h k + (i - sumTo h k); omega⟩
theorem spots_get (h : List (List S61)) (s p : Nat) (hs : s < h.length) (hp : p < (rd_L4 h (s : Int)).length) : (spotsL h)[sumTo h s + p]? = some (s, p) := by
  obtain ⟨t, ht⟩ := spots_pre h hs (j := p + 1) (by omega)
  have h1 : (spotsTo h s ++ spotsOf s (p + 1)).length = sumTo h s + (p + 1) := by rw [List.length_append, spotsOf_len, spotsTo_len h s (by omega)]
  rw [← ht, List.getElem?_append_left (by omega), List.getElem?_append_right (by rw [spotsTo_len h s (by omega)]; omega), spotsTo_len h s (by omega), show sumTo h s + p - sumTo h s = p by omega]
  exact spotsOf_get _ _ _ (by omega)
theorem flat_get (h : List (List S61)) (s p : Nat) (hs : s < h.length) (hp : p < (rd_L4 h (s : Int)).length) : rd_T61 h.flatten ((sumTo h s + p : Nat) : Int) = rd_T61 (rd_L4 h (s : Int)) (p : Int) := by
  have e : h.flatten = (h.take s).flatten ++ (rd_L4 h (s : Int) ++ (h.drop (s + 1)).flatten) := by
    rw [← List.append_assoc, ← take_flat h hs, ← List.flatten_append, List.take_append_drop]
  have h1 : sumTo h s = ((h.take s).flatten).length := rfl
  unfold rd_T61
  rw [Int.toNat_natCast, Int.toNat_natCast, List.getD_eq_getElem?_getD, List.getD_eq_getElem?_getD, e, List.getElem?_append_right (by omega), h1, show (h.take s).flatten.length + p - (h.take s).flatten.length = p by omega, List.getElem?_append_left hp]
theorem spotV_at (h : List (List S61)) (i : Nat) (hi : i < h.flatten.length) : ∃ s p : Nat, spotV h (i : Int) = ((s : Int), (p : Int), true) ∧ s < h.length ∧ p < (rd_L4 h (s : Int)).length ∧ i = sumTo h s + p := by
  have hl : i < (spotsL h).length := by rw [spotsL_len]; exact hi
  have hg := List.getElem?_eq_getElem hl
  obtain ⟨h1, h2, h3⟩ := spotsTo_at h h.length (Nat.le_refl _) i _ hg
  refine ⟨_, _, ?_, h1, h2, h3⟩
  unfold spotV
  rw [if_neg (by omega), Int.toNat_natCast, hg]
theorem spotV_past (h : List (List S61)) (i : Int) (hi : (h.flatten.length : Int) ≤ i) : spotV h i = (0, 0, false) := by
  unfold spotV
  rw [if_neg (by omega), List.getElem?_eq_none (by rw [spotsL_len]; omega)]
theorem numberV_at (h : List (List S61)) (s p : Nat) (hs : s < h.length) (hp : p < (rd_L4 h (s : Int)).length) : numberV h (s : Int) (p : Int) = (((sumTo h s + p : Nat) : Int), true) := by
  have hg := spots_get h s p hs hp
  have hlt := (List.getElem?_eq_some_iff.1 hg).1
  have : (spotsL h).findIdx? (isAt (s : Int) (p : Int)) = some (sumTo h s + p) := by
    rw [List.findIdx?_eq_some_iff_getElem]
    refine ⟨hlt, ?_, fun j hj => ?_⟩
    · rw [(List.getElem?_eq_some_iff.1 hg).2]
      simp [isAt]
    · have hj' : j < (spotsL h).length := by omega
      obtain ⟨h1, h2, h3⟩ := spotsTo_at h h.length (Nat.le_refl _) j _ (List.getElem?_eq_getElem hj')
      intro he
      simp only [isAt, Bool.and_eq_true, beq_iff_eq] at he
      have e1 : ((spotsL h)[j]).1 = s := by omega
      have e2 : ((spotsL h)[j]).2 = p := by omega
      have h3' : j = sumTo h ((spotsL h)[j]).1 + ((spotsL h)[j]).2 := h3
      rw [e1, e2] at h3'
      omega
  unfold numberV
  rw [this]
theorem numberV_no (h : List (List S61)) (a b : Int) (hn : ∀ s p : Nat, a = (s : Int) → b = (p : Int) → s < h.length → ¬ p < (rd_L4 h (s : Int)).length) : numberV h a b = (0, false) := by
  have : (spotsL h).findIdx? (isAt a b) = none := by
    rw [List.findIdx?_eq_none_iff]
    intro x hx
    obtain ⟨j, hj, rfl⟩ := List.mem_iff_getElem.1 hx
    obtain ⟨h1, h2, h3⟩ := spotsTo_at h h.length (Nat.le_refl _) j _ (List.getElem?_eq_getElem hj)
    cases he : isAt a b ((spotsL h)[j]) with
    | false => rfl
    | true =>
      simp only [isAt, Bool.and_eq_true, beq_iff_eq] at he
      exact absurd h2 (hn _ _ he.1.symm he.2.symm h1)
  unfold numberV
  rw [this]
end Go.Proofs.YtcabnjinfkjnjaaDoor.XH
