/- THE PLAIN LAWS OF HIST, second part: the reference's Name and Right answer as the program's. -/
import Derived.Test.YtcabnjinfkjnjaaDoorPureHist
namespace Go.Proofs.YtcabnjinfkjnjaaDoor.XH
open Go.RowKit Go.Proofs.YtcabnjinfkjnjaaDoorW.PrintWords Go.Proofs.YtcabnjinfkjnjaaDoorW.PrintLast Go.Proofs.YtcabnjinfkjnjaaDoor.X
set_option linter.unusedVariables false

def isAz (x : UInt8) : Bool := decide (97 ≤ x.toNat) && decide (x.toNat ≤ 122)
theorem az_fin : ∀ n : Fin 256, azL.contains (UInt8.ofNat n.1) = (decide (97 ≤ n.1) && decide (n.1 ≤ 122)) := by decide +kernel
theorem az_contains (x : UInt8) : azL.contains x = isAz x := by
  have := az_fin ⟨x.toNat, x.toNat_lt⟩
  simp only [UInt8.ofNat_toNat] at this
  exact this
theorem dropWhile_nil (p : UInt8 → Bool) : ∀ l : List UInt8, l.dropWhile p = [] ↔ l.all p = true
  | [] => by simp
  | a :: l => by
    rw [List.dropWhile_cons, List.all_cons]
    cases h : p a with
    | true => simp only [if_true, Bool.true_and]; exact dropWhile_nil p l
    | false => simp
theorem trim_nil (l c : List UInt8) : (Lib.trimS l c).isEmpty = l.all (c.contains ·) := by
  have e : Lib.trimS l c = (Lib.trimRightS l c).dropWhile (c.contains ·) := rfl
  have e2 : Lib.trimRightS l c = (l.reverse.dropWhile (c.contains ·)).reverse := rfl
  rw [Bool.eq_iff_iff, List.isEmpty_iff, e, dropWhile_nil]
  constructor
  · intro h
    rw [e2, List.all_reverse] at h
    have key : ∀ m : List UInt8, (m.dropWhile (c.contains ·)).all (c.contains ·) = true → m.all (c.contains ·) = true := by
      intro m
      induction m with
      | nil => intro _; rfl
      | cons a m ih =>
        intro hm
        rw [List.dropWhile_cons] at hm
        cases ha : c.contains a with
        | true => rw [ha, if_pos rfl] at hm; rw [List.all_cons, ha, Bool.true_and]; exact ih hm
        | false => rw [ha, if_neg Bool.false_ne_true] at hm; exact hm
    have := key _ h
    rwa [List.all_reverse] at this
  · intro h
    have : l.reverse.dropWhile (c.contains ·) = [] := by rw [dropWhile_nil, List.all_reverse]; exact h
    rw [e2, this]
    rfl
def nameV (v : ByteArray) : Bool := v.data.toList.all isAz && (decide (1 ≤ v.size) && decide (v.size ≤ 8))
theorem named_name (v : ByteArray) : namedV v = nameV v := by
  unfold namedV nameV
  rw [trim_nil, show (fun x => azL.contains x) = isAz from funext az_contains]
  have h1 : decide (0 < v.size) = decide (1 ≤ v.size) := rfl
  rw [h1]
  cases decide (1 ≤ v.size) <;> cases decide (v.size ≤ 8) <;> cases v.data.toList.all isAz <;> rfl
theorem bt_at (v : ByteArray) (i : Nat) (h : i < v.data.toList.length) : bt v (i : Int) = ((v.data.toList[i]).toNat : Int) := by
  unfold bt
  have h2 : i < v.size := by rw [Array.length_toList] at h; exact h
  rw [dif_pos (by rw [Int.toNat_natCast]; exact h2)]
  simp only [Int.toNat_natCast]
  rfl
theorem size_data (v : ByteArray) : v.data.toList.length = v.size := Array.length_toList
theorem ev_name0 (v : ByteArray) (hv : v.size ≤ 1048576) : ∀ (d i : Nat), d = v.size - i → i ≤ v.size → Ev (fun k => eyewitnessref06_Name.l0 k v (i : Int)) ((v.data.toList.drop i).all isAz && (decide (1 ≤ v.size) && decide (v.size ≤ 8))) := by
  have hl := size_data v
  intro d
  induction d with
  | zero =>
    intro i hd hi
    have e : i = v.size := by omega
    rw [List.drop_eq_nil_of_le (by omega)]
    by_cases h1 : 1 ≤ v.size
    · refine Ev.step (f := fun _ => some (decide ((v.size : Int) ≤ 8))) (fun k => ?_) ?_
      · rw [eyewitnessref06_Name.l0, if_neg (by omega), if_pos (by omega)]
      · rw [decide_eq_true h1, List.all_nil, Bool.true_and, Bool.true_and]
        have : decide ((v.size : Int) ≤ 8) = decide (v.size ≤ 8) := by simp; omega
        rw [← this]
        exact Ev.now _
    · refine Ev.step (f := fun _ => some false) (fun k => ?_) ?_
      · rw [eyewitnessref06_Name.l0, if_neg (by omega), if_neg (by omega)]
      · rw [decide_eq_false h1, Bool.false_and, Bool.and_false]
        exact Ev.now _
  | succ d ih =>
    intro i hd hi
    have hlt : i < v.data.toList.length := by omega
    rw [List.drop_eq_getElem_cons hlt, List.all_cons]
    have hb := bt_at v i hlt
    by_cases h1 : 97 ≤ (v.data.toList[i]).toNat
    · by_cases h2 : (v.data.toList[i]).toNat ≤ 122
      · have ha : isAz v.data.toList[i] = true := by unfold isAz; rw [decide_eq_true h1, decide_eq_true h2]; rfl
        rw [ha, Bool.true_and]
        refine Ev.step (fun k => ?_) (ih (i + 1) (by omega) (by omega))
        rw [eyewitnessref06_Name.l0, if_pos (by omega), if_pos (by omega), hb, if_neg (by omega), if_neg (by omega), w64 (by omega) (by omega)]
        rfl
      · have ha : isAz v.data.toList[i] = false := by unfold isAz; rw [decide_eq_false h2, Bool.and_false]
        rw [ha, Bool.false_and, Bool.false_and]
        refine Ev.step (f := fun _ => some false) (fun k => ?_) (Ev.now _)
        rw [eyewitnessref06_Name.l0, if_pos (by omega), if_pos (by omega), hb, if_neg (by omega), if_pos (by omega)]
    · have ha : isAz v.data.toList[i] = false := by unfold isAz; rw [decide_eq_false h1, Bool.false_and]
      rw [ha, Bool.false_and, Bool.false_and]
      refine Ev.step (f := fun _ => some false) (fun k => ?_) (Ev.now _)
      rw [eyewitnessref06_Name.l0, if_pos (by omega), if_pos (by omega), hb, if_pos (by omega)]
theorem ev_name (v : ByteArray) (hv : v.size ≤ 1048576) : Ev (fun k => eyewitnessref06_Name.f k v) (nameV v) := ev_name0 v hv _ 0 rfl (Nat.zero_le _)
theorem ev_right0 (l : List S61) (hl : l.length ≤ 1048576) (hs : ∀ x ∈ l, x.f1.size ≤ 1048576) : ∀ (d i : Nat), d = l.length - i → i ≤ l.length → Ev (fun k => eyewitnessref06_Right.l0 k l (i : Int)) ((l.drop i).all (fun x => nameV x.f1) && decide (l.length ≤ 4096)) := by
  intro d
  induction d with
  | zero =>
    intro i hd hi
    rw [List.drop_eq_nil_of_le (by omega)]
    refine Ev.step (f := fun _ => some (decide ((l.length : Int) ≤ 4096))) (fun k => ?_) ?_
    · rw [eyewitnessref06_Right.l0, if_neg (by omega)]
    · have : decide ((l.length : Int) ≤ 4096) = decide (l.length ≤ 4096) := by simp; omega
      rw [List.all_nil, Bool.true_and, ← this]
      exact Ev.now _
  | succ d ih =>
    intro i hd hi
    have hlt : i < l.length := by omega
    rw [List.drop_eq_getElem_cons hlt, List.all_cons]
    have hn := ev_name (l[i]).f1 (hs _ (List.getElem_mem hlt))
    refine Ev.step (f := fun k => (eyewitnessref06_Name.f k (l[i]).f1).bind fun t => if t = true then eyewitnessref06_Right.l0 k l ((i + 1 : Nat) : Int) else some false) (fun k => ?_) (Ev.bind hn ?_)
    · rw [eyewitnessref06_Right.l0, if_pos (by omega), if_pos (by omega), T61n l hlt, w64 (by omega) (by omega)]
      rfl
    · cases nameV (l[i]).f1 with
      | true => rw [Bool.true_and]; exact Ev.pos rfl (ih (i + 1) (by omega) (by omega))
      | false => rw [Bool.false_and, Bool.false_and]; exact Ev.neg Bool.false_ne_true (Ev.now _)
theorem rightV_eq (h : List (List S61)) : rightV h = (h.flatten.all (fun x => nameV x.f1) && decide (h.flatten.length ≤ 4096)) := by
  unfold rightV
  have : (h.flatten.any fun x => !namedV x.f1) = !(h.flatten.all fun x => nameV x.f1) := by
    rw [List.not_all_eq_any_not]
    congr 1
    funext x
    rw [named_name]
  rw [this, Bool.not_not, Bool.and_comm]
theorem ev_right (h : List (List S61)) (ho : HistOk h) : Ev (fun k => eyewitnessref06_Right.f k h) (rightV h) := by
  unfold eyewitnessref06_Right.f
  rw [rightV_eq]
  exact Ev.bind (ev_flat h ho) (ev_right0 h.flatten ho.ops (fun x hx => (ho.each x hx).1) _ 0 rfl (Nat.zero_le _))

end Go.Proofs.YtcabnjinfkjnjaaDoor.XH
