/- THE PLAIN LAW HistBack. -/
import Derived.Test.YtcabnjinfkjnjaaDoorPureHist
import Derived.Test.YtcabnjinfkjnjaaDoorXHx8
namespace Go.Proofs.YtcabnjinfkjnjaaDoor.XH
open Go.RowKit Go.Proofs.YtcabnjinfkjnjaaDoorW.PrintWords Go.Proofs.YtcabnjinfkjnjaaDoorW.PrintLast Go.Proofs.YtcabnjinfkjnjaaDoor.X
set_option linter.unusedVariables false
theorem awake06 : Ev (fun k => eyewitnesslaw06_awake.f k) true := Ev.of (fun k => eyewitnesslaw06_awake.mono k) (k := 10) (by decide +kernel)
theorem op_same (x : S61) : (!(x.f0 == x.f0) || (!(x.f1.toList == x.f1.toList) || !(x.f2 == x.f2))) = false := by simp
theorem ev_back (h : List (List S61)) (ho : HistOk h) : ∀ (d i : Nat), d = h.flatten.length - i → i ≤ h.flatten.length → Ev (fun k => eyewitnesslaw06_HistBack.l0 k h h.flatten (i : Int)) true := by
  intro d
  induction d with
  | zero =>
    intro i hd hi
    have e : i = h.flatten.length := by omega
    subst e
    have hs : hist_Spot.f h (h.flatten.length : Int) = some (0, 0, false) := by
      unfold hist_Spot.f
      rw [if_pos (by have := ho.ops; omega), spotV_past h _ (Int.le_refl _)]
    refine Ev.step (f := fun k => (eyewitnesslaw06_awake.f k).bind fun t252 => if t252 = true then some true else some false) (fun k => ?_) (Ev.bind awake06 (Ev.now _))
    rw [eyewitnesslaw06_HistBack.l0, if_neg (by omega), hs]
    rfl
  | succ d ih =>
    intro i hd hi
    have hlt : i < h.flatten.length := by omega
    obtain ⟨s, p, hsp, h1, h2, h3⟩ := spotV_at h i hlt
    have h4 := ho.ops
    have hs : hist_Spot.f h (i : Int) = some ((s : Int), (p : Int), true) := by
      unfold hist_Spot.f
      rw [if_pos (by omega), hsp]
    have hn : hist_Number.f h (s : Int) (p : Int) = some ((i : Int), true) := by
      unfold hist_Number.f
      rw [if_pos (by rw [spotsL_len]; omega), numberV_at h s p h1 h2, h3]
    have hf := flat_get h s p h1 h2
    rw [← h3] at hf
    refine Ev.step (fun k => ?_) (ih (i + 1) (by omega) (by omega))
    rw [eyewitnesslaw06_HistBack.l0, if_pos (by omega), hs]
    simp only [Option.bind_some]
    rw [hn]
    simp only [Option.bind_some]
    rw [if_pos trivial, if_pos trivial, if_pos trivial, if_neg (by omega), if_neg (by omega), if_neg (by omega), if_pos (by omega), if_pos (by omega), if_neg (by omega), if_pos (by omega), if_pos (by omega), if_pos (by omega), ← hf, op_same, if_neg Bool.false_ne_true, w64 (by omega) (by omega)]
    rfl
theorem histBack_pure (h : List (List S61)) (ho : HistOk h) : ∃ k, eyewitnesslaw06_HistBack.f k h = some true := by
  refine Ev.rounds ?_
  unfold eyewitnesslaw06_HistBack.f
  refine Ev.bind (ev_small h ho 60) ?_
  cases smallV h 60 with
  | false => exact Ev.neg Bool.false_ne_true (Ev.bind awake06 (Ev.now _))
  | true =>
    refine Ev.pos rfl ?_
    have hf : hist_Flat.f h = some h.flatten := by unfold hist_Flat.f; rw [if_pos (by have := ho.ops; omega)]
    refine Ev.bind (g := fun _ => hist_Flat.f h) ⟨0, fun _ _ => hf⟩ (Ev.bind (ev_hcount h ho) (Ev.pos rfl (ev_back h ho _ 0 rfl (Nat.zero_le _))))
theorem histBack_walk (A0 : Option Addr) (c0 : Nat) (l0 : List (List S61)) (ho : HistOk l0) (w : World) (hr0 : Kd.C (Kd.slice 61 k61) w A0 l0.length l0) (hc0 : l0.length ≤ c0) :
    Calls Tryd.prog 6 #[.slice A0 l0.length c0] w fun e w' => e = .returned (.bool true) ∧ Below w.heap.size w w' := by
  obtain ⟨k, hk⟩ := histBack_pure l0 ho
  exact eyewitnesslaw06_HistBack.calls k A0 c0 l0 true w hr0 hc0 hk
end Go.Proofs.YtcabnjinfkjnjaaDoor.XH
