/- THE PLAIN LAWS OF HIST, first part: what its functions answer. -/
import Derived.Test.YtcabnjinfkjnjaaDoorGOpen
import Derived.Test.YtcabnjinfkjnjaaDoorGRight
import Derived.Test.YtcabnjinfkjnjaaDoorXHx6
import Derived.Test.YtcabnjinfkjnjaaDoorXHx10
namespace Go.Proofs.YtcabnjinfkjnjaaDoor.XH
open Go.RowKit Go.Proofs.YtcabnjinfkjnjaaDoorW.PrintWords Go.Proofs.YtcabnjinfkjnjaaDoorW.PrintLast Go.Proofs.YtcabnjinfkjnjaaDoor.X
set_option linter.unusedVariables false

/-- A history as an input of a law may be. -/
structure HistOk (h : List (List S61)) : Prop where
  sessions : h.length ≤ 1048576
  ops : h.flatten.length ≤ 1048576
  each : ∀ x ∈ h.flatten, x.f1.size ≤ 1048576 ∧ -9223372036854775808 ≤ x.f2 ∧ x.f2 ≤ 9223372036854775807
theorem histOk_of {h : List (List S61)} {n : Nat} (H : ∃ k, AllG (fun l n => ∃ k, AllG opBound l k ∧ k + 1 ≤ n) h k ∧ k + 1 ≤ n) (hn : n ≤ 1048576) : HistOk h := by
  obtain ⟨h1, h2, h3⟩ := hist_bounds H
  exact ⟨by omega, by omega, fun x hx => ⟨by have := (h3 x hx).1; omega, (h3 x hx).2⟩⟩
theorem w64 {z : Int} (h0 : -9223372036854775808 ≤ z) (h1 : z ≤ 9223372036854775807) : wrap64 z = z := by
  unfold wrap64
  omega
theorem L4n (h : List (List S61)) {k : Nat} (hk : k < h.length) : rd_L4 h (k : Int) = h[k] := by
  unfold rd_L4
  rw [Int.toNat_natCast, List.getD_eq_getElem?_getD, List.getElem?_eq_getElem hk]
  rfl
theorem row_le (h : List (List S61)) {k : Nat} (hk : k < h.length) : (rd_L4 h (k : Int)).length ≤ h.flatten.length := by
  have h1 := sumTo_le h (k + 1)
  rw [sumTo_succ h hk] at h1
  omega
theorem T61n (l : List S61) {k : Nat} (h : k < l.length) : rd_T61 l (k : Int) = l[k] := rd_T61n l h
/-- From some number of rounds on: an if whose condition is known. -/
theorem Ev.pos {α : Type} {c : Prop} [Decidable c] {a b : Nat → Option α} {r : α} (hc : c) (h : Ev a r) : Ev (fun k => if c then a k else b k) r := Ev.congr (fun k => if_pos hc) h
theorem Ev.neg {α : Type} {c : Prop} [Decidable c] {a b : Nat → Option α} {r : α} (hc : ¬ c) (h : Ev b r) : Ev (fun k => if c then a k else b k) r := Ev.congr (fun k => if_neg hc) h

/-! ### the reference's Flat, Count, Small -/
theorem ev_flat0 (h : List (List S61)) (ho : HistOk h) : ∀ (d i : Nat), d = h.length - i → i ≤ h.length → Ev (fun k => eyewitnessref06_Flat.l0 k h (h.take i).flatten (i : Int)) h.flatten := by
  intro d
  induction d with
  | zero =>
    intro i hd hi
    have e : i = h.length := by omega
    subst e
    refine Ev.step (f := fun _ => some h.flatten) (fun k => ?_) (Ev.now _)
    rw [eyewitnessref06_Flat.l0, if_neg (by omega), List.take_length]
  | succ d ih =>
    intro i hd hi
    have hlt : i < h.length := by omega
    refine Ev.step (fun k => ?_) (ih (i + 1) (by omega) (by omega))
    have h1 : ((h.take i).flatten).length + (rd_L4 h (i : Int)).length < 4398046511104 := by
      have := sumTo_le h (i + 1)
      rw [sumTo_succ h hlt] at this
      have h2 := ho.ops
      have h3 : ((h.take i).flatten).length = sumTo h i := rfl
      omega
    rw [eyewitnessref06_Flat.l0, if_pos (by omega), if_pos (by omega), if_pos h1, w64 (by omega) (by have := ho.sessions; omega), take_flat h hlt]
    rfl
theorem ev_flat (h : List (List S61)) (ho : HistOk h) : Ev (fun k => eyewitnessref06_Flat.f k h) h.flatten := ev_flat0 h ho _ 0 rfl (Nat.zero_le _)
theorem ev_count (h : List (List S61)) (ho : HistOk h) : Ev (fun k => eyewitnessref06_Count.f k h) (h.flatten.length : Int) := by
  unfold eyewitnessref06_Count.f
  exact Ev.bind (ev_flat h ho) (Ev.now _)
def smallV (h : List (List S61)) (most : Nat) : Bool := decide (h.length ≤ most) && (decide (h.flatten.length ≤ most) && h.flatten.all (fun x => decide (x.f1.size ≤ 20)))
theorem ev_small0 (l : List S61) (hl : l.length ≤ 1048576) : ∀ (d i : Nat), d = l.length - i → i ≤ l.length → Ev (fun k => eyewitnessref06_Small.l0 k l (i : Int)) ((l.drop i).all (fun x => decide (x.f1.size ≤ 20))) := by
  intro d
  induction d with
  | zero =>
    intro i hd hi
    have e : i = l.length := by omega
    subst e
    refine Ev.step (f := fun _ => some true) (fun k => ?_) ?_
    · rw [eyewitnessref06_Small.l0, if_neg (by omega)]
    · rw [List.drop_length]; exact Ev.now _
  | succ d ih =>
    intro i hd hi
    have hlt : i < l.length := by omega
    rw [List.drop_eq_getElem_cons hlt, List.all_cons]
    by_cases hs : (l[i]).f1.size ≤ 20
    · rw [decide_eq_true hs, Bool.true_and]
      refine Ev.step (fun k => ?_) (ih (i + 1) (by omega) (by omega))
      rw [eyewitnessref06_Small.l0, if_pos (by omega), if_pos (by omega), T61n l hlt, if_neg (by omega), w64 (by omega) (by omega)]
      rfl
    · rw [decide_eq_false hs, Bool.false_and]
      refine Ev.step (f := fun _ => some false) (fun k => ?_) (Ev.now _)
      rw [eyewitnessref06_Small.l0, if_pos (by omega), if_pos (by omega), T61n l hlt, if_pos (by omega)]
theorem ev_small (h : List (List S61)) (ho : HistOk h) (most : Nat) : Ev (fun k => eyewitnessref06_Small.f k h (most : Int)) (smallV h most) := by
  unfold eyewitnessref06_Small.f smallV
  by_cases h1 : h.length ≤ most
  · rw [decide_eq_true h1, Bool.true_and]
    refine Ev.neg (by omega) (Ev.bind (ev_count h ho) ?_)
    by_cases h2 : h.flatten.length ≤ most
    · rw [decide_eq_true h2, Bool.true_and]
      refine Ev.step (f := fun k => (eyewitnessref06_Flat.f k h).bind fun t => eyewitnessref06_Small.l0 k t 0) (fun k => ?_) (Ev.bind (ev_flat h ho) (ev_small0 h.flatten ho.ops _ 0 rfl (Nat.zero_le _)))
      rw [eyewitnessref06_Small.j0, if_neg (fun hc => by have := of_decide_eq_true hc; omega)]
    · rw [decide_eq_false h2, Bool.false_and]
      refine Ev.step (f := fun _ => some false) (fun k => ?_) (Ev.now _)
      rw [eyewitnessref06_Small.j0, if_pos (decide_eq_true (by omega))]
  · rw [decide_eq_false h1, Bool.false_and]
    refine Ev.pos (by omega) ?_
    refine Ev.step (f := fun _ => some false) (fun k => ?_) (Ev.now _)
    rw [eyewitnessref06_Small.j0, if_pos rfl]
theorem ev_hcount0 (h : List (List S61)) (ho : HistOk h) : ∀ (d i : Nat), d = h.length - i → i ≤ h.length → Ev (fun k => hist_Count.l0 k (sumTo h i : Int) h (h.length : Int) (i : Int)) (h.flatten.length : Int) := by
  intro d
  induction d with
  | zero =>
    intro i hd hi
    have e : i = h.length := by omega
    subst e
    refine Ev.step (f := fun _ => some _) (fun k => ?_) (Ev.now _)
    rw [hist_Count.l0, if_neg (by omega), sumTo_all]
  | succ d ih =>
    intro i hd hi
    have hlt : i < h.length := by omega
    refine Ev.step (fun k => ?_) (ih (i + 1) (by omega) (by omega))
    have h1 := sumTo_le h (i + 1)
    rw [sumTo_succ h hlt] at h1
    have h2 := ho.ops
    have h3 := ho.sessions
    rw [hist_Count.l0, if_pos (by omega), if_pos (by omega), if_pos (by omega), w64 (by omega) (by omega), w64 (by omega) (by omega), sumTo_succ h hlt]
    rfl
theorem ev_hcount (h : List (List S61)) (ho : HistOk h) : Ev (fun k => hist_Count.f k h) (h.flatten.length : Int) := ev_hcount0 h ho _ 0 rfl (Nat.zero_le _)

end Go.Proofs.YtcabnjinfkjnjaaDoor.XH
