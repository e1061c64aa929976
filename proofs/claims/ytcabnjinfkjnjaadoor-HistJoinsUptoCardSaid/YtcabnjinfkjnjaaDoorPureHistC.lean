/- THE PLAIN LAWS OF HIST, third part: the reference's Same, Spot, Number answer as the program's. -/
import Derived.Test.YtcabnjinfkjnjaaDoorPureHistB
import Derived.Test.YtcabnjinfkjnjaaDoorPureHistS
import Derived.Test.YtcabnjinfkjnjaaDoorGSame
import Derived.Test.YtcabnjinfkjnjaaDoorXHs8
import Derived.Test.YtcabnjinfkjnjaaDoorXHx9
namespace Go.Proofs.YtcabnjinfkjnjaaDoor.XH
open Go.RowKit Go.Proofs.YtcabnjinfkjnjaaDoorW.PrintWords Go.Proofs.YtcabnjinfkjnjaaDoorW.PrintLast Go.Proofs.YtcabnjinfkjnjaaDoor.X
set_option linter.unusedVariables false

/-! ### Same -/
theorem neq_op (x y : S61) : (!(x.f0 == y.f0) || (!(x.f1.toList == y.f1.toList) || !(x.f2 == y.f2))) = !(eqOp x y) := by
  unfold eqOp
  cases (x.f0 == y.f0) <;> cases (x.f1.toList == y.f1.toList) <;> cases (x.f2 == y.f2) <;> rfl
theorem ev_same1 (a b : List (List S61)) (hl : a.length = b.length) (hal : a.length ≤ 1048576) (s : Nat) (hs : s < a.length) (hb : (rd_L4 a (s : Int)).length ≤ 1048576) (he : (rd_L4 a (s : Int)).length = (rd_L4 b (s : Int)).length) (r : Bool) (hn : Ev (fun k => eyewitnessref06_Same.l0 k a b ((s + 1 : Nat) : Int)) r) :
    ∀ (d i : Nat), d = (rd_L4 a (s : Int)).length - i → i ≤ (rd_L4 a (s : Int)).length → Ev (fun k => eyewitnessref06_Same.l1 k a b (s : Int) (i : Int)) (allEq ((rd_L4 a (s : Int)).drop i) ((rd_L4 b (s : Int)).drop i) && r) := by
  intro d
  induction d with
  | zero =>
    intro i hd hi
    rw [List.drop_eq_nil_of_le (by omega), List.drop_eq_nil_of_le (by omega)]
    unfold allEq
    rw [Bool.true_and]
    refine Ev.step (fun k => ?_) hn
    rw [eyewitnessref06_Same.l1, if_pos (by omega), if_pos (by omega), if_neg (by omega), w64 (by omega) (by omega)]
    rfl
  | succ d ih =>
    intro i hd hi
    have h1 : i < (rd_L4 a (s : Int)).length := by omega
    have h2 : i < (rd_L4 b (s : Int)).length := by omega
    rw [List.drop_eq_getElem_cons h1, List.drop_eq_getElem_cons h2]
    unfold allEq
    cases hq : eqOp ((rd_L4 a (s : Int))[i]) ((rd_L4 b (s : Int))[i]) with
    | true =>
      rw [Bool.true_and]
      refine Ev.step (fun k => ?_) (ih (i + 1) (by omega) (by omega))
      rw [eyewitnessref06_Same.l1, if_pos (by omega), if_pos (by omega), if_pos (by omega), if_pos (by omega), if_pos (by omega), if_pos (by omega), T61n _ h1, T61n _ h2, neq_op, hq, if_neg (by simp), w64 (by omega) (by omega)]
      rfl
    | false =>
      rw [Bool.false_and, Bool.false_and]
      refine Ev.step (f := fun _ => some false) (fun k => ?_) (Ev.now _)
      rw [eyewitnessref06_Same.l1, if_pos (by omega), if_pos (by omega), if_pos (by omega), if_pos (by omega), if_pos (by omega), if_pos (by omega), T61n _ h1, T61n _ h2, neq_op, hq, if_pos (by simp)]
theorem ev_same0 (a b : List (List S61)) (hl : a.length = b.length) (hal : a.length ≤ 1048576) (hr : ∀ s, s < a.length → (rd_L4 a (s : Int)).length ≤ 1048576) : ∀ (d s : Nat), d = a.length - s → s ≤ a.length → Ev (fun k => eyewitnessref06_Same.l0 k a b (s : Int)) (sameV (a.drop s) (b.drop s)) := by
  intro d
  induction d with
  | zero =>
    intro s hd hs
    rw [List.drop_eq_nil_of_le (by omega), List.drop_eq_nil_of_le (by omega)]
    unfold sameV
    refine Ev.step (f := fun _ => some true) (fun k => ?_) (Ev.now _)
    rw [eyewitnessref06_Same.l0, if_neg (by omega)]
  | succ d ih =>
    intro s hd hs
    have h1 : s < a.length := by omega
    have h2 : s < b.length := by omega
    rw [List.drop_eq_getElem_cons h1, List.drop_eq_getElem_cons h2]
    unfold sameV
    rw [← L4n a h1, ← L4n b h2]
    by_cases he : (rd_L4 a (s : Int)).length = (rd_L4 b (s : Int)).length
    · have := ev_same1 a b hl hal s h1 (hr s h1) he _ (ih (s + 1) (by omega) (by omega)) _ 0 rfl (Nat.zero_le _)
      rw [List.drop_zero, List.drop_zero] at this
      refine Ev.step (fun k => ?_) this
      rw [eyewitnessref06_Same.l0, if_pos (by omega), if_pos (by omega), if_pos (by omega), if_pos (by omega)]
      rfl
    · rw [allEq_len _ _ he, Bool.false_and]
      refine Ev.step (f := fun _ => some false) (fun k => ?_) (Ev.now _)
      rw [eyewitnessref06_Same.l0, if_pos (by omega), if_pos (by omega), if_pos (by omega), if_neg (by omega)]
theorem ev_same (a b : List (List S61)) (ha : a.length ≤ 1048576) (hr : ∀ s, s < a.length → (rd_L4 a (s : Int)).length ≤ 1048576) : Ev (fun k => eyewitnessref06_Same.f k a b) (sameV a b) := by
  unfold eyewitnessref06_Same.f
  by_cases hl : a.length = b.length
  · refine Ev.pos (by omega) ?_
    have := ev_same0 a b hl ha hr _ 0 rfl (Nat.zero_le _)
    rwa [List.drop_zero, List.drop_zero] at this
  · rw [sameV_len _ _ hl]
    exact Ev.neg (by omega) (Ev.now _)
theorem ho_row {h : List (List S61)} (ho : HistOk h) : ∀ s, s < h.length → (rd_L4 h (s : Int)).length ≤ 1048576 := fun s hs => Nat.le_trans (row_le h hs) ho.ops

/-! ### Spot, Number -/
theorem ev_spot0 (h : List (List S61)) (ho : HistOk h) (i : Nat) (hi : i ≤ 9223372036854775807) : ∀ (d s : Nat), d = h.length - s → s ≤ h.length → sumTo h s ≤ i → Ev (fun k => eyewitnessref06_Spot.l0 k h ((i - sumTo h s : Nat) : Int) (s : Int)) (spotV h (i : Int)) := by
  intro d
  induction d with
  | zero =>
    intro s hd hs hle
    have e : s = h.length := by omega
    subst e
    rw [spotV_past h _ (by rw [sumTo_all] at hle; omega)]
    refine Ev.step (f := fun _ => some (0, 0, false)) (fun k => ?_) (Ev.now _)
    rw [eyewitnessref06_Spot.l0, if_neg (by omega)]
  | succ d ih =>
    intro s hd hs hle
    have hlt : s < h.length := by omega
    have h3 := ho.sessions
    by_cases hp : i - sumTo h s < (rd_L4 h (s : Int)).length
    · have hg := spots_get h s (i - sumTo h s) hlt hp
      have : spotV h (i : Int) = ((s : Int), ((i - sumTo h s : Nat) : Int), true) := by
        unfold spotV
        rw [if_neg (by omega), Int.toNat_natCast, show i = sumTo h s + (i - sumTo h s) by omega, hg, show sumTo h s + (i - sumTo h s) - sumTo h s = i - sumTo h s by omega]
      rw [this]
      refine Ev.step (f := fun _ => some _) (fun k => ?_) (Ev.now _)
      rw [eyewitnessref06_Spot.l0, if_pos (by omega), if_pos (by omega), if_pos (by omega)]
    · have hss := sumTo_succ h hlt
      refine Ev.step (fun k => ?_) (ih (s + 1) (by omega) (by omega) (by omega))
      rw [eyewitnessref06_Spot.l0, if_pos (by omega), if_pos (by omega), if_neg (by omega), w64 (by omega) (by omega), w64 (by omega) (by omega)]
      congr 1
      omega
theorem ev_spot (h : List (List S61)) (ho : HistOk h) (i : Int) (hi : i ≤ 9223372036854775807) : Ev (fun k => eyewitnessref06_Spot.f k h i) (spotV h i) := by
  unfold eyewitnessref06_Spot.f
  by_cases h0 : i < 0
  · have : spotV h i = (0, 0, false) := by unfold spotV; rw [if_pos h0]
    rw [this]
    exact Ev.pos h0 (Ev.now _)
  · refine Ev.neg h0 ?_
    have := ev_spot0 h ho i.toNat (by omega) _ 0 rfl (Nat.zero_le _) (Nat.zero_le _)
    have e : ((i.toNat : Nat) : Int) = i := by omega
    rw [e] at this
    have e2 : ((i.toNat - sumTo h 0 : Nat) : Int) = i := by show ((i.toNat - 0 : Nat) : Int) = i; omega
    rw [e2] at this
    exact this
theorem ho_take {h : List (List S61)} (ho : HistOk h) (s : Nat) : HistOk (h.take s) := by
  have e : h.flatten = (h.take s).flatten ++ (h.drop s).flatten := by rw [← List.flatten_append, List.take_append_drop]
  refine ⟨?_, ?_, fun x hx => ho.each x (by rw [e]; exact List.mem_append_left _ hx)⟩
  · have := ho.sessions; rw [List.length_take]; omega
  · have := ho.ops; rw [e, List.length_append] at this; omega
theorem ev_number (h : List (List S61)) (ho : HistOk h) (a b : Int) : Ev (fun k => eyewitnessref06_Number.f k h a b) (numberV h a b) := by
  unfold eyewitnessref06_Number.f
  have no : ∀ (c : ¬ ∃ s p : Nat, a = (s : Int) ∧ b = (p : Int) ∧ s < h.length ∧ p < (rd_L4 h (s : Int)).length), numberV h a b = (0, false) := fun c => numberV_no h a b (fun s p e1 e2 h1 h2 => c ⟨s, p, e1, e2, h1, h2⟩)
  by_cases h1 : a < 0
  · rw [no (by rintro ⟨s, p, e1, _⟩; omega)]; exact Ev.pos h1 (Ev.now _)
  · refine Ev.neg h1 ?_
    by_cases h2 : a ≥ (h.length : Int)
    · rw [no (by rintro ⟨s, p, e1, e2, e3, _⟩; omega)]; exact Ev.pos h2 (Ev.now _)
    · refine Ev.neg h2 ?_
      by_cases h3 : b < 0
      · rw [no (by rintro ⟨s, p, e1, e2, _⟩; omega)]; exact Ev.pos h3 (Ev.now _)
      · refine Ev.neg h3 (Ev.pos (by omega) (Ev.pos (by omega) ?_))
        obtain ⟨s, rfl⟩ : ∃ s : Nat, a = (s : Int) := ⟨a.toNat, by omega⟩
        obtain ⟨p, rfl⟩ : ∃ p : Nat, b = (p : Int) := ⟨b.toNat, by omega⟩
        by_cases h4 : (p : Int) ≥ ((rd_L4 h (s : Int)).length : Int)
        · refine Ev.pos h4 ?_
          rw [no (by rintro ⟨s', p', e1, e2, e3, e4⟩; have e5 : s = s' := (by omega); subst e5; omega)]
          exact Ev.now _
        · refine Ev.neg h4 (Ev.pos (by omega) ?_)
          rw [numberV_at h s p (by omega) (by omega), Int.toNat_natCast]
          have hc := ev_count (h.take s) (ho_take ho s)
          have hs1 : ((h.take s).flatten.length : Int) = (sumTo h s : Int) := rfl
          have h5 := ho.ops
          have h6 := sumTo_le h s
          have h7 := ho_row ho s (by omega)
          refine Ev.bind hc ?_
          rw [hs1, w64 (by omega) (by omega)]
          exact Ev.now _
end Go.Proofs.YtcabnjinfkjnjaaDoor.XH
