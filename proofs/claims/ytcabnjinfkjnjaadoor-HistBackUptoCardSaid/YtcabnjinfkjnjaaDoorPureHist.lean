/- THE PLAIN LAWS OF HIST, first part: what its functions answer. -/
import Derived.Test.YtcabnjinfkjnjaaDoorGSpot
import Derived.Test.YtcabnjinfkjnjaaDoorGOpen
import Derived.Test.YtcabnjinfkjnjaaDoorGRight
import Derived.Test.YtcabnjinfkjnjaaDoorXHx6
import Derived.Test.YtcabnjinfkjnjaaDoorXHx10
namespace Go.Proofs.YtcabnjinfkjnjaaDoor.XH
open Go.RowKit Go.Proofs.YtcabnjinfkjnjaaDoorW.PrintWords Go.Proofs.YtcabnjinfkjnjaaDoorW.PrintLast Go.Proofs.YtcabnjinfkjnjaaDoor.X
set_option linter.unusedVariables false

/-- A history as an input of a law may be. -/
structure HistOk (h : List (List S61)) : Prop where
  sessions : h.length ≤ 1048576
  ops : h.flatten.length ≤ 1048576
  each : ∀ x ∈ h.flatten, x.f1.size ≤ 1048576 ∧ -9223372036854775808 ≤ x.f2 ∧ x.f2 ≤ 9223372036854775807
theorem histOk_of {h : List (List S61)} {n : Nat} (H : ∃ k, AllG (fun l n => ∃ k, AllG opBound l k ∧ k + 1 ≤ n) h k ∧ k + 1 ≤ n) (hn : n ≤ 1048576) : HistOk h := by
  obtain ⟨h1, h2, h3⟩ := hist_bounds H
  exact ⟨by omega, by omega, fun x hx => ⟨by have := (h3 x hx).1; omega, (h3 x hx).2⟩⟩
theorem w64 {z : Int} (h0 : -9223372036854775808 ≤ z) (h1 : z ≤ 9223372036854775807) : wrap64 z = z := by
  unfold wrap64
  omega
theorem L4n (h : List (List S61)) {k : Nat} (hk : k < h.length) : rd_L4 h (k : Int) = h[k] := by
  unfold rd_L4
  rw [Int.toNat_natCast, List.getD_eq_getElem?_getD, List.getElem?_eq_getElem hk]
  rfl
theorem row_le (h : List (List S61)) {k : Nat} (hk : k < h.length) : (rd_L4 h (k : Int)).length ≤ h.flatten.length := by
  have h1 := sumTo_le h (k + 1)
  rw [sumTo_succ h hk] at h1
  omega
theorem T61n (l : List S61) {k : Nat} (h : k < l.length) : rd_T61 l (k : Int) = l[k] := rd_T61n l h
/-- From some number of rounds on: an if whose condition is known. -/
theorem Ev.pos {α : Type} {c : Prop} [Decidable c] {a b : Nat → Option α} {r : α} (hc : c) (h : Ev a r) : Ev (fun k => if c then a k else b k) r := Ev.congr (fun k => if_pos hc) h
theorem Ev.neg {α : Type} {c : Prop} [Decidable c] {a b : Nat → Option α} {r : α} (hc : ¬ c) (h : Ev b r) : Ev (fun k => if c then a k else b k) r := Ev.congr (fun k => if_neg hc) h

/-! ### the reference's Flat, Count, Small -/
theorem ev_flat0 (h : List (List S61)) (ho : HistOk h) : ∀ (d i : Nat), d = h.length - i → i ≤ h.length → Ev (fun k => eyewitnessref06_Flat.l0 k h (h.take i).flatten (i : Int)) h.flatten := by
  intro d
  induction d with
  | zero =>
    intro i hd hi
    have e : i = h.length := by omega
    subst e
    refine Ev.step (f := fun _ => some h.flatten) (fun k => ?_) (Ev.now _)
    rw [eyewitnessref06_Flat.l0, if_neg (by omega), List.take_length]
  | succ d ih =>
    intro i hd hi
    have hlt : i < h.length := by omega
    refine Ev.step (fun k => ?_) (ih (i + 1) (by omega) (by omega))
    have h1 : ((h.take i).flatten).length + (rd_L4 h (i : Int)).length < 4398046511104 := by
      have := sumTo_le h (i + 1)
      rw [sumTo_succ h hlt] at this
      have h2 := ho.ops
      have h3 : ((h.take i).flatten).length = sumTo h i := rfl
      omega
    rw [eyewitnessref06_Flat.l0, if_pos (by omega), if_pos (by omega), if_pos h1, w64 (by omega) (by have := ho.sessions; omega), take_flat h hlt]
    rfl
theorem ev_flat (h : List (List S61)) (ho : HistOk h) : Ev (fun k => eyewitnessref06_Flat.f k h) h.flatten := ev_flat0 h ho _ 0 rfl (Nat.zero_le _)
theorem ev_count (h : List (List S61)) (ho : HistOk h) : Ev (fun k => eyewitnessref06_Count.f k h) (h.flatten.length : Int) := by
  unfold eyewitnessref06_Count.f
  exact Ev.bind (ev_flat h ho) (Ev.now _)
def smallV (h : List (List S61)) (most : Nat) : Bool := decide (h.length ≤ most) && (decide (h.flatten.length ≤ most) && h.flatten.all (fun x => decide (x.f1.size ≤ 20)))
theorem ev_small0 (l : List S61) (hl : l.length ≤ 1048576) : ∀ (d i : Nat), d = l.length - i → i ≤ l.length → Ev (fun k => eyewitnessref06_Small.l0 k l (i : Int)) ((l.drop i).all (fun x => decide (x.f1.size ≤ 20))) := by
  intro d
  induction d with
  | zero =>
    intro i hd hi
    have e : i = l.length := by omega
    subst e
    refine Ev.step (f := fun _ => some true) (fun k => ?_) ?_
    · rw [eyewitnessref06_Small.l0, if_neg (by omega)]
    · rw [List.drop_length]; exact Ev.now _
  | succ d ih =>
    intro i hd hi
    have hlt : i < l.length := by omega
    rw [List.drop_eq_getElem_cons hlt, List.all_cons]
    by_cases hs : (l[i]).f1.size ≤ 20
    · rw [decide_eq_true hs, Bool.true_and]
      refine Ev.step (fun k => ?_) (ih (i + 1) (by omega) (by omega))
      rw [eyewitnessref06_Small.l0, if_pos (by omega), if_pos (by omega), T61n l hlt, if_neg (by omega), w64 (by omega) (by omega)]
      rfl
    · rw [decide_eq_false hs, Bool.false_and]
      refine Ev.step (f := fun _ => some false) (fun k => ?_) (Ev.now _)
      rw [eyewitnessref06_Small.l0, if_pos (by omega), if_pos (by omega), T61n l hlt, if_pos (by omega)]
theorem ev_small (h : List (List S61)) (ho : HistOk h) (most : Nat) : Ev (fun k => eyewitnessref06_Small.f k h (most : Int)) (smallV h most) := by
  unfold eyewitnessref06_Small.f smallV
  by_cases h1 : h.length ≤ most
  · rw [decide_eq_true h1, Bool.true_and]
    refine Ev.neg (by omega) (Ev.bind (ev_count h ho) ?_)
    by_cases h2 : h.flatten.length ≤ most
    · rw [decide_eq_true h2, Bool.true_and]
      refine Ev.step (f := fun k => (eyewitnessref06_Flat.f k h).bind fun t => eyewitnessref06_Small.l0 k t 0) (fun k => ?_) (Ev.bind (ev_flat h ho) (ev_small0 h.flatten ho.ops _ 0 rfl (Nat.zero_le _)))
      rw [eyewitnessref06_Small.j0, if_neg (fun hc => by have := of_decide_eq_true hc; omega)]
    · rw [decide_eq_false h2, Bool.false_and]
      refine Ev.step (f := fun _ => some false) (fun k => ?_) (Ev.now _)
      rw [eyewitnessref06_Small.j0, if_pos (decide_eq_true (by omega))]
  · rw [decide_eq_false h1, Bool.false_and]
    refine Ev.pos (by omega) ?_
    refine Ev.step (f := fun _ => some false) (fun k => ?_) (Ev.now _)
    rw [eyewitnessref06_Small.j0, if_pos rfl]
theorem ev_hcount0 (h : List (List S61)) (ho : HistOk h) : ∀ (d i : Nat), d = h.length - i → i ≤ h.length → Ev (fun k => hist_Count.l0 k (sumTo h i : Int) h (h.length : Int) (i : Int)) (h.flatten.length : Int) := by
  intro d
  induction d with
  | zero =>
    intro i hd hi
    have e : i = h.length := by omega
    subst e
    refine Ev.step (f := fun _ => some _) (fun k => ?_) (Ev.now _)
    rw [hist_Count.l0, if_neg (by omega), sumTo_all]
  | succ d ih =>
    intro i hd hi
    have hlt : i < h.length := by omega
    refine Ev.step (fun k => ?_) (ih (i + 1) (by omega) (by omega))
    have h1 := sumTo_le h (i + 1)
    rw [sumTo_succ h hlt] at h1
    have h2 := ho.ops
    have h3 := ho.sessions
    rw [hist_Count.l0, if_pos (by omega), if_pos (by omega), if_pos (by omega), w64 (by omega) (by omega), w64 (by omega) (by omega), sumTo_succ h hlt]
    rfl
theorem ev_hcount (h : List (List S61)) (ho : HistOk h) : Ev (fun k => hist_Count.f k h) (h.flatten.length : Int) := ev_hcount0 h ho _ 0 rfl (Nat.zero_le _)

/-! ### spots -/
theorem spotsTo_len (h : List (List S61)) : ∀ k, k ≤ h.length → (spotsTo h k).length = sumTo h k
  | 0, _ => rfl
  | k + 1, hk => by rw [spotsTo_succ, List.length_append, spotsOf_len, spotsTo_len h k (by omega), sumTo_succ h (by omega)]
theorem spotsL_len (h : List (List S61)) : (spotsL h).length = h.flatten.length := by unfold spotsL; rw [spotsTo_len h _ (Nat.le_refl _), sumTo_all]
theorem spotsOf_get (s n i : Nat) (h : i < n) : (spotsOf s n)[i]? = some (s, i) := by
  unfold spotsOf
  rw [List.getElem?_map, List.getElem?_range h]
  rfl
/-- Where a spot stands among the spots. -/
theorem spotsTo_at (h : List (List S61)) : ∀ k, k ≤ h.length → ∀ i x, (spotsTo h k)[i]? = some x → x.1 < k ∧ x.2 < (rd_L4 h (x.1 : Int)).length ∧ i = sumTo h x.1 + x.2
  | 0, _, i, x, hx => by simp [spotsTo] at hx
  | k + 1, hk, i, x, hx => by
    rw [spotsTo_succ] at hx
    rcases Nat.lt_or_ge i (spotsTo h k).length with hi | hi
    · rw [List.getElem?_append_left hi] at hx
      obtain ⟨h1, h2, h3⟩ := spotsTo_at h k (by omega) i x hx
      exact ⟨by omega, h2, h3⟩
    · rw [List.getElem?_append_right hi] at hx
      rw [spotsTo_len h k (by omega)] at hx hi
      have hlt : i - sumTo h k < (rd_L4 h (k : Int)).length := by
        have := (List.getElem?_eq_some_iff.1 hx).1
        rwa [spotsOf_len] at this
      rw [spotsOf_get _ _ _ hlt] at hx
      obtain rfl := Option.some.inj hx
      exact ⟨by omega, hlt, by show i = sumTo h k + (i - sumTo h k); omega⟩
theorem spots_get (h : List (List S61)) (s p : Nat) (hs : s < h.length) (hp : p < (rd_L4 h (s : Int)).length) : (spotsL h)[sumTo h s + p]? = some (s, p) := by
  obtain ⟨t, ht⟩ := spots_pre h hs (j := p + 1) (by omega)
  have h1 : (spotsTo h s ++ spotsOf s (p + 1)).length = sumTo h s + (p + 1) := by rw [List.length_append, spotsOf_len, spotsTo_len h s (by omega)]
  rw [← ht, List.getElem?_append_left (by omega), List.getElem?_append_right (by rw [spotsTo_len h s (by omega)]; omega), spotsTo_len h s (by omega), show sumTo h s + p - sumTo h s = p by omega]
  exact spotsOf_get _ _ _ (by omega)
theorem flat_get (h : List (List S61)) (s p : Nat) (hs : s < h.length) (hp : p < (rd_L4 h (s : Int)).length) : rd_T61 h.flatten ((sumTo h s + p : Nat) : Int) = rd_T61 (rd_L4 h (s : Int)) (p : Int) := by
  have e : h.flatten = (h.take s).flatten ++ (rd_L4 h (s : Int) ++ (h.drop (s + 1)).flatten) := by
    rw [← List.append_assoc, ← take_flat h hs, ← List.flatten_append, List.take_append_drop]
  have h1 : sumTo h s = ((h.take s).flatten).length := rfl
  unfold rd_T61
  rw [Int.toNat_natCast, Int.toNat_natCast, List.getD_eq_getElem?_getD, List.getD_eq_getElem?_getD, e, List.getElem?_append_right (by omega), h1, show (h.take s).flatten.length + p - (h.take s).flatten.length = p by omega, List.getElem?_append_left hp]
theorem spotV_at (h : List (List S61)) (i : Nat) (hi : i < h.flatten.length) : ∃ s p : Nat, spotV h (i : Int) = ((s : Int), (p : Int), true) ∧ s < h.length ∧ p < (rd_L4 h (s : Int)).length ∧ i = sumTo h s + p := by
  have hl : i < (spotsL h).length := by rw [spotsL_len]; exact hi
  have hg := List.getElem?_eq_getElem hl
  obtain ⟨h1, h2, h3⟩ := spotsTo_at h h.length (Nat.le_refl _) i _ hg
  refine ⟨_, _, ?_, h1, h2, h3⟩
  unfold spotV
  rw [if_neg (by omega), Int.toNat_natCast, hg]
theorem spotV_past (h : List (List S61)) (i : Int) (hi : (h.flatten.length : Int) ≤ i) : spotV h i = (0, 0, false) := by
  unfold spotV
  rw [if_neg (by omega), List.getElem?_eq_none (by rw [spotsL_len]; omega)]
theorem numberV_at (h : List (List S61)) (s p : Nat) (hs : s < h.length) (hp : p < (rd_L4 h (s : Int)).length) : numberV h (s : Int) (p : Int) = (((sumTo h s + p : Nat) : Int), true) := by
  have hg := spots_get h s p hs hp
  have hlt := (List.getElem?_eq_some_iff.1 hg).1
  have : (spotsL h).findIdx? (isAt (s : Int) (p : Int)) = some (sumTo h s + p) := by
    rw [List.findIdx?_eq_some_iff_getElem]
    refine ⟨hlt, ?_, fun j hj => ?_⟩
    · rw [(List.getElem?_eq_some_iff.1 hg).2]
      simp [isAt]
    · have hj' : j < (spotsL h).length := by omega
      obtain ⟨h1, h2, h3⟩ := spotsTo_at h h.length (Nat.le_refl _) j _ (List.getElem?_eq_getElem hj')
      intro he
      simp only [isAt, Bool.and_eq_true, beq_iff_eq] at he
      have e1 : ((spotsL h)[j]).1 = s := by omega
      have e2 : ((spotsL h)[j]).2 = p := by omega
      have h3' : j = sumTo h ((spotsL h)[j]).1 + ((spotsL h)[j]).2 := h3
      rw [e1, e2] at h3'
      omega
  unfold numberV
  rw [this]
theorem numberV_no (h : List (List S61)) (a b : Int) (hn : ∀ s p : Nat, a = (s : Int) → b = (p : Int) → s < h.length → ¬ p < (rd_L4 h (s : Int)).length) : numberV h a b = (0, false) := by
  have : (spotsL h).findIdx? (isAt a b) = none := by
    rw [List.findIdx?_eq_none_iff]
    intro x hx
    obtain ⟨j, hj, rfl⟩ := List.mem_iff_getElem.1 hx
    obtain ⟨h1, h2, h3⟩ := spotsTo_at h h.length (Nat.le_refl _) j _ (List.getElem?_eq_getElem hj)
    cases he : isAt a b ((spotsL h)[j]) with
    | false => rfl
    | true =>
      simp only [isAt, Bool.and_eq_true, beq_iff_eq] at he
      exact absurd h2 (hn _ _ he.1.symm he.2.symm h1)
  unfold numberV
  rw [this]
end Go.Proofs.YtcabnjinfkjnjaaDoor.XH
