/- THE PLAIN LAWS OF SHOW, first part: the reference's text is the program's. -/
import Derived.Test.YtcabnjinfkjnjaaDoorPureHistB
import Derived.Test.YtcabnjinfkjnjaaDoorPureNum
import Derived.Test.YtcabnjinfkjnjaaDoorXHx16
namespace Go.Proofs.YtcabnjinfkjnjaaDoor.XH
open Go.RowKit Go.Proofs.YtcabnjinfkjnjaaDoorW.PrintWords Go.Proofs.YtcabnjinfkjnjaaDoorW.PrintLast Go.Proofs.YtcabnjinfkjnjaaDoor.X
set_option linter.unusedVariables false

def mk (l : List UInt8) : ByteArray := ⟨l.toArray⟩
theorem mk_append (a b : List UInt8) : mk a ++ mk b = mk (a ++ b) := by
  apply ByteArray.ext
  rw [ByteArray.data_append]
  simp [mk]
theorem mk_size (a : List UInt8) : (mk a).size = a.length := by simp [mk, ByteArray.size]
theorem mk_data (v : ByteArray) : mk v.data.toList = v := by
  apply ByteArray.ext
  simp [mk]
theorem mk_list (a : List UInt8) : (mk a).data.toList = a := by simp [mk]
theorem opText_mk (a : Bool) (v : ByteArray) (n : Int) : opText a v n = mk ((if a = true then 119 else 114) :: 58 :: (v.data.toList ++ (61 :: Lib.itoa n))) := by
  have e : opText a v n = (mk [if a = true then 119 else 114] ++ mk [58]) ++ mk v.data.toList ++ mk [61] ++ mk (Lib.itoa n) := by
    unfold opText digitsOf
    rw [mk_data]
    cases a <;> rfl
  rw [e, mk_append, mk_append, mk_append, mk_append]
  simp
theorem opBytes_eq (x : S61) : opBytes x = (if x.f0 = true then 119 else 114) :: 58 :: (x.f1.data.toList ++ (61 :: Lib.itoa x.f2)) := by
  unfold opBytes
  rw [opText_mk, mk_list]
theorem ev_put (n : Int) (h0 : -9223372036854775808 ≤ n) (h1 : n ≤ 9223372036854775807) : Ev (fun k => eyewitnessref05_Put.f k n) (digitsOf n) := Ev.of (fun k => eyewitnessref05_Put.mono n k) (put_ref n h0 h1)
theorem lit_size (a b : UInt8) : (⟨#[a, b]⟩ : ByteArray).size = 2 := rfl
theorem ev_op (x : S61) (ho : okOp x = true) : Ev (fun k => eyewitnessref08_Op.f k x.f0 x.f1 x.f2) (opText x.f0 x.f1 x.f2) := by
  obtain ⟨h1, h2, h3⟩ := (okOp_iff x).1 ho
  have hd := digits_size x.f2 h2 h3
  have e61 : (⟨#[61]⟩ : ByteArray).size = 1 := rfl
  unfold eyewitnessref08_Op.f
  cases hx : x.f0 with
  | true =>
    refine Ev.pos rfl (Ev.pos (by omega) (Ev.pos (by rw [ByteArray.size_append, lit_size]; omega) (Ev.bind (ev_put x.f2 h2 h3) (Ev.pos (by rw [ByteArray.size_append, ByteArray.size_append, lit_size, e61]; omega) ?_))))
    exact Ev.now _
  | false =>
    refine Ev.neg Bool.false_ne_true (Ev.pos (by omega) (Ev.pos (by rw [ByteArray.size_append, lit_size]; omega) (Ev.bind (ev_put x.f2 h2 h3) (Ev.pos (by rw [ByteArray.size_append, ByteArray.size_append, lit_size, e61]; omega) ?_))))
    exact Ev.now _
/-- A history that is few, with names that are short. -/
structure FewOk (h : List (List S61)) : Prop where
  ho : HistOk h
  few : h.length ≤ 1000
  ops : h.flatten.length ≤ 1000
  ok : ∀ x ∈ h.flatten, okOp x = true
theorem few_row {h : List (List S61)} (hf : FewOk h) {s : Nat} (hs : s < h.length) : (rd_L4 h (s : Int)).length ≤ 1000 := Nat.le_trans (row_le h hs) hf.ops
theorem few_len {h : List (List S61)} (hf : FewOk h) (s : Nat) (hs : s ≤ h.length) : (textTo h s).length ≤ 2000000000 := by
  have h1 := textTo_len h hf.ok s hs
  have h2 := sumTo_le h s
  have h3 := hf.few
  have h4 := hf.ops
  omega
theorem few_line {h : List (List S61)} (hf : FewOk h) {s : Nat} (hs : s < h.length) (j : Nat) (hj : j ≤ (rd_L4 h (s : Int)).length) : (lineTo (rd_L4 h (s : Int)) j).length ≤ 2000000000 := by
  have h1 := lineTo_len (rd_L4 h (s : Int)) (fun x hx => hf.ok x (rd_mem h hs hx)) j hj
  have h2 := few_row hf hs
  omega
theorem ev_line (h : List (List S61)) (hf : FewOk h) (s : Nat) (hs : s < h.length) (r : ByteArray × Int) (hn : Ev (fun k => eyewitnessref08_Text.l0 k h (mk (textTo h (s + 1))) ((s + 1 : Nat) : Int)) r) :
    ∀ (d j : Nat), d = (rd_L4 h (s : Int)).length - j → j ≤ (rd_L4 h (s : Int)).length → Ev (fun k => eyewitnessref08_Text.l1 k h (mk (textTo h s ++ lineTo (rd_L4 h (s : Int)) j)) (s : Int) (j : Int)) r := by
  intro d
  have hfew := hf.few
  have hrow := few_row hf hs
  have hl1 := few_len hf s (by omega)
  induction d with
  | zero =>
    intro j hd hj
    have e : j = (rd_L4 h (s : Int)).length := by omega
    have hl2 := few_line hf hs j hj
    refine Ev.step (fun k => ?_) hn
    rw [eyewitnessref08_Text.l1, if_pos (by omega), if_pos (by omega), if_neg (by omega), if_pos (by rw [mk_size, List.length_append]; omega), w64 (by omega) (by omega)]
    rw [show (⟨#[10]⟩ : ByteArray) = mk [10] from rfl, mk_append, List.append_assoc, e]
    rfl
  | succ d ih =>
    intro j hd hj
    have hlt : j < (rd_L4 h (s : Int)).length := by omega
    have hok : okOp (rd_T61 (rd_L4 h (s : Int)) (j : Int)) = true := hf.ok _ (rd_mem h hs (by rw [T61n _ hlt]; exact List.getElem_mem _))
    have hop := ev_op _ hok
    have hol := opBytes_len hok
    have hl2 := few_line hf hs j hj
    have ih' := ih (j + 1) (by omega) (by omega)
    have hosz : (opText (rd_T61 (rd_L4 h (s : Int)) (j : Int)).f0 (rd_T61 (rd_L4 h (s : Int)) (j : Int)).f1 (rd_T61 (rd_L4 h (s : Int)) (j : Int)).f2).size ≤ 1000024 := by rw [← size_data]; exact hol
    have hom : opText (rd_T61 (rd_L4 h (s : Int)) (j : Int)).f0 (rd_T61 (rd_L4 h (s : Int)) (j : Int)).f1 (rd_T61 (rd_L4 h (s : Int)) (j : Int)).f2 = mk (opBytes (rd_T61 (rd_L4 h (s : Int)) (j : Int))) := (mk_data _).symm
    generalize hx : rd_T61 (rd_L4 h (s : Int)) (j : Int) = x at hop hosz hom
    rcases Nat.eq_zero_or_pos j with h0 | h0
    · refine Ev.step (f := fun k => (eyewitnessref08_Op.f k x.f0 x.f1 x.f2).bind fun t => if (mk (textTo h s ++ lineTo (rd_L4 h (s : Int)) j)).size + t.size ≤ 9223372036854775807 then eyewitnessref08_Text.l1 k h (mk (textTo h s ++ lineTo (rd_L4 h (s : Int)) j) ++ t) (s : Int) ((j + 1 : Nat) : Int) else none) (fun k => ?_) (Ev.bind hop (Ev.pos (by rw [mk_size, List.length_append]; omega) ?_))
      · rw [eyewitnessref08_Text.l1, if_pos (by omega), if_pos (by omega), if_pos (by omega), if_neg (by omega), if_pos (by omega), hx, w64 (by omega) (by omega)]
        rfl
      · have e : mk (textTo h s ++ lineTo (rd_L4 h (s : Int)) j) ++ opText x.f0 x.f1 x.f2 = mk (textTo h s ++ lineTo (rd_L4 h (s : Int)) (j + 1)) := by
          rw [hom, mk_append, lineTo, if_pos h0, List.nil_append, hx, List.append_assoc]
        rw [e]
        exact ih'
    · refine Ev.step (f := fun k => (eyewitnessref08_Op.f k x.f0 x.f1 x.f2).bind fun t => if (mk (textTo h s ++ lineTo (rd_L4 h (s : Int)) j) ++ (⟨#[32]⟩ : ByteArray)).size + t.size ≤ 9223372036854775807 then eyewitnessref08_Text.l1 k h ((mk (textTo h s ++ lineTo (rd_L4 h (s : Int)) j) ++ (⟨#[32]⟩ : ByteArray)) ++ t) (s : Int) ((j + 1 : Nat) : Int) else none) (fun k => ?_) (Ev.bind hop (Ev.pos (by rw [ByteArray.size_append, mk_size, List.length_append, show (⟨#[32]⟩ : ByteArray).size = 1 from rfl]; omega) ?_))
      · rw [eyewitnessref08_Text.l1, if_pos (by omega), if_pos (by omega), if_pos (by omega), if_pos (by omega), if_pos (by rw [mk_size, List.length_append]; omega), if_pos (by omega), hx, w64 (by omega) (by omega)]
        rfl
      · have e : (mk (textTo h s ++ lineTo (rd_L4 h (s : Int)) j) ++ (⟨#[32]⟩ : ByteArray)) ++ opText x.f0 x.f1 x.f2 = mk (textTo h s ++ lineTo (rd_L4 h (s : Int)) (j + 1)) := by
          rw [hom, show (⟨#[32]⟩ : ByteArray) = mk [32] from rfl, mk_append, mk_append, lineTo, if_neg (by omega), hx]
          simp
        rw [e]
        exact ih'
theorem ev_text0 (h : List (List S61)) (hf : FewOk h) : ∀ (d s : Nat), d = h.length - s → s ≤ h.length → Ev (fun k => eyewitnessref08_Text.l0 k h (mk (textTo h s)) (s : Int)) (mk (textTo h h.length), 0) := by
  intro d
  induction d with
  | zero =>
    intro s hd hs
    have e : s = h.length := by omega
    subst e
    refine Ev.step (f := fun _ => some _) (fun k => ?_) (Ev.now _)
    rw [eyewitnessref08_Text.l0, if_neg (by omega)]
  | succ d ih =>
    intro s hd hs
    have hlt : s < h.length := by omega
    have := ev_line h hf s hlt _ (ih (s + 1) (by omega) (by omega)) _ 0 rfl (Nat.zero_le _)
    refine Ev.step (fun k => ?_) this
    rw [eyewitnessref08_Text.l0, if_pos (by omega), lineTo, List.append_nil]
    rfl
theorem ev_text (h : List (List S61)) (hf : FewOk h) : Ev (fun k => eyewitnessref08_Text.f k h) (textV h) := by
  unfold eyewitnessref08_Text.f
  refine Ev.bind (ev_right h hf.ho) ?_
  unfold textV
  cases rightV h with
  | false => exact Ev.neg Bool.false_ne_true (Ev.now _)
  | true => exact Ev.pos rfl (ev_text0 h hf _ 0 rfl (Nat.zero_le _))
theorem few_of {h : List (List S61)} (ho : HistOk h) (m : Nat) (hm : m ≤ 1000) (hs : smallV h m = true) : FewOk h := by
  unfold smallV at hs
  rw [Bool.and_eq_true, Bool.and_eq_true, decide_eq_true_eq, decide_eq_true_eq, List.all_eq_true] at hs
  obtain ⟨h1, h2, h3⟩ := hs
  refine ⟨ho, by omega, by omega, fun x hx => (okOp_iff x).2 ⟨?_, (ho.each x hx).2⟩⟩
  have := of_decide_eq_true (h3 x hx)
  omega
theorem show_of {h : List (List S61)} (hf : FewOk h) : show_Text.f h = some (textV h) := by
  unfold show_Text.f
  rw [if_pos]
  unfold textOk
  rw [Bool.and_eq_true, Bool.and_eq_true, decide_eq_true_eq, decide_eq_true_eq, List.all_eq_true]
  exact ⟨by have := hf.few; omega, by have := hf.ops; omega, hf.ok⟩
theorem awake08 : eyewitnesslaw08_awake.f = some true := by decide +kernel
end Go.Proofs.YtcabnjinfkjnjaaDoor.XH
