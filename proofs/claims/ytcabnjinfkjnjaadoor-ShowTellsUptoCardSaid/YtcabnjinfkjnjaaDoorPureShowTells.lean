/- THE PLAIN LAW ShowTells. -/
import Derived.Test.YtcabnjinfkjnjaaDoorPureShow
import Derived.Test.YtcabnjinfkjnjaaDoorXHx17
namespace Go.Proofs.YtcabnjinfkjnjaaDoor.XH
open Go.RowKit Go.Proofs.YtcabnjinfkjnjaaDoorW.PrintWords Go.Proofs.YtcabnjinfkjnjaaDoorW.PrintLast Go.Proofs.YtcabnjinfkjnjaaDoor.X
set_option linter.unusedVariables false
theorem ev_tells_awake (h : List (List S61)) (a : Bool) (v : ByteArray) (n : Int) : Ev (fun k => eyewitnesslaw08_ShowTells.j0 k h true a v n) true := by
  refine Ev.step (f := fun _ => some true) (fun k => ?_) (Ev.now _)
  rw [eyewitnesslaw08_ShowTells.j0, if_pos rfl, awake08]
  rfl
theorem ev_tells (h : List (List S61)) (hf : FewOk h) (a : Bool) (v : ByteArray) (n : Int) (hok : okOp ⟨a, v, n⟩ = true) : Ev (fun k => eyewitnesslaw08_ShowTells.j0 k h false a v n) true := by
  have h2 : show_Op.f a v n = some (opText a v n) := by unfold show_Op.f; rw [if_pos hok]
  refine Ev.step (f := fun k => (eyewitnessref08_Text.f k h).bind fun bt459 => if (textV h).1.toList = bt459.1.toList then (if (textV h).2 = bt459.2 then ((eyewitnessref08_Op.f k a v n).bind fun t463 => some ((opText a v n).toList == t463.toList)) else some false) else some false) (fun k => ?_) (Ev.bind (ev_text h hf) (Ev.pos rfl (Ev.pos rfl (Ev.bind (ev_op ⟨a, v, n⟩ hok) ?_))))
  · rw [eyewitnesslaw08_ShowTells.j0, if_neg Bool.false_ne_true, show_of hf, awake08, h2]
    simp only [Option.bind_some, if_true]
  · rw [beq_self_eq_true]
    exact Ev.now _
theorem showTells_pure (h : List (List S61)) (ho : HistOk h) (a : Bool) (v : ByteArray) (n : Int) (h0 : -9223372036854775808 ≤ n) (h1 : n ≤ 9223372036854775807) : ∃ k, eyewitnesslaw08_ShowTells.f k h a v n = some true := by
  refine Ev.rounds ?_
  unfold eyewitnesslaw08_ShowTells.f
  refine Ev.bind (ev_small h ho 60) ?_
  cases hs : smallV h 60 with
  | false => exact Ev.neg Bool.false_ne_true (ev_tells_awake h a v n)
  | true =>
    refine Ev.pos rfl ?_
    by_cases hv : (v.size : Int) > 20
    · rw [decide_eq_true hv]
      exact ev_tells_awake h a v n
    · rw [decide_eq_false hv]
      exact ev_tells h (few_of ho 60 (by omega) hs) a v n ((okOp_iff _).2 ⟨by show v.size ≤ 1000000; omega, h0, h1⟩)
theorem showTells_walk (A0 : Option Addr) (c0 : Nat) (l0 : List (List S61)) (ho : HistOk l0) (x : S61) (n : Nat) (hx : opBound x n) (w : World) (hT : Tabs w) (hr0 : Kd.C (Kd.slice 61 k61) w A0 l0.length l0) (hc0 : l0.length ≤ c0) :
    Calls Tryd.prog 16 #[.slice A0 l0.length c0, .agg #[.bool x.f0, .string x.f1, .int .i64 x.f2]] w fun e w' => e = .returned (.bool true) ∧ Below w.heap.size w w' := by
  have hr := wf_range hx.2
  obtain ⟨k, hk⟩ := showTells_pure l0 ho x.f0 x.f1 x.f2 hr.1 hr.2
  exact eyewitnesslaw08_ShowTells.calls k A0 c0 l0 x.f0 x.f1 x.f2 true w hr0 hc0 hT hk
end Go.Proofs.YtcabnjinfkjnjaaDoor.XH
