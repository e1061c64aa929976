/- THE PLAIN LAWS OF SHOW, first part: the reference's text is the program's. -/
import Derived.Test.YtcabnjinfkjnjaaDoorPureHistB
import Derived.Test.YtcabnjinfkjnjaaDoorPureNum
import Derived.Test.YtcabnjinfkjnjaaDoorXHs16
import Derived.Test.YtcabnjinfkjnjaaDoorGShow
namespace Go.Proofs.YtcabnjinfkjnjaaDoor.XH
open Go.RowKit Go.Proofs.YtcabnjinfkjnjaaDoorW.PrintWords Go.Proofs.YtcabnjinfkjnjaaDoorW.PrintLast Go.Proofs.YtcabnjinfkjnjaaDoor.X
set_option linter.unusedVariables false

def mk (l : List UInt8) : ByteArray := ⟨l.toArray⟩
theorem mk_append (a b : List UInt8) : mk a ++ mk b = mk (a ++ b) := by
  apply ByteArray.ext
  rw [ByteArray.data_append]
  simp [mk]
theorem mk_size (a : List UInt8) : (mk a).size = a.length := by simp [mk, ByteArray.size]
theorem mk_data (v : ByteArray) : mk v.data.toList = v := by
  apply ByteArray.ext
  simp [mk]
theorem mk_list (a : List UInt8) : (mk a).data.toList = a := by simp [mk]
theorem opText_mk (a : Bool) (v : ByteArray) (n : Int) : opText a v n = mk ((if a = true then 119 else 114) :: 58 :: (v.data.toList ++ (61 :: Lib.itoa n))) := by
  have e : opText a v n = (mk [if a = true then 119 else 114] ++ mk [58]) ++ mk v.data.toList ++ mk [61] ++ mk (Lib.itoa n) := by
    unfold opText digitsOf
    rw [mk_data]
    cases a <;> rfl
  rw [e, mk_append, mk_append, mk_append, mk_append]
  simp
theorem opBytes_eq (x : S61) : opBytes x = (if x.f0 = true then 119 else 114) :: 58 :: (x.f1.data.toList ++ (61 :: Lib.itoa x.f2)) := by
  unfold opBytes
  rw [opText_mk, mk_list]
theorem lit_size (a b : UInt8) : (⟨#[a, b]⟩ : ByteArray).size = 2 := rfl
/-- A history that is few, with names that are short. -/
structure FewOk (h : List (List S61)) : Prop where
  ho : HistOk h
  few : h.length ≤ 1000
  ops : h.flatten.length ≤ 1000
  ok : ∀ x ∈ h.flatten, okOp x = true
theorem few_row {h : List (List S61)} (hf : FewOk h) {s : Nat} (hs : s < h.length) : (rd_L4 h (s : Int)).length ≤ 1000 := Nat.le_trans (row_le h hs) hf.ops
theorem few_len {h : List (List S61)} (hf : FewOk h) (s : Nat) (hs : s ≤ h.length) : (textTo h s).length ≤ 2000000000 := by
  have h1 := textTo_len h hf.ok s hs
  have h2 := sumTo_le h s
  have h3 := hf.few
  have h4 := hf.ops
  omega
theorem few_line {h : List (List S61)} (hf : FewOk h) {s : Nat} (hs : s < h.length) (j : Nat) (hj : j ≤ (rd_L4 h (s : Int)).length) : (lineTo (rd_L4 h (s : Int)) j).length ≤ 2000000000 := by
  have h1 := lineTo_len (rd_L4 h (s : Int)) (fun x hx => hf.ok x (rd_mem h hs hx)) j hj
  have h2 := few_row hf hs
  omega
theorem few_of {h : List (List S61)} (ho : HistOk h) (m : Nat) (hm : m ≤ 1000) (hs : smallV h m = true) : FewOk h := by
  unfold smallV at hs
  rw [Bool.and_eq_true, Bool.and_eq_true, decide_eq_true_eq, decide_eq_true_eq, List.all_eq_true] at hs
  obtain ⟨h1, h2, h3⟩ := hs
  refine ⟨ho, by omega, by omega, fun x hx => (okOp_iff x).2 ⟨?_, (ho.each x hx).2⟩⟩
  have := of_decide_eq_true (h3 x hx)
  omega
theorem show_of {h : List (List S61)} (hf : FewOk h) : show_Text.f h = some (textV h) := by
  unfold show_Text.f
  rw [if_pos]
  unfold textOk
  rw [Bool.and_eq_true, Bool.and_eq_true, decide_eq_true_eq, decide_eq_true_eq, List.all_eq_true]
  exact ⟨by have := hf.few; omega, by have := hf.ops; omega, hf.ok⟩
theorem awake08 : eyewitnesslaw08_awake.f = some true := by decide +kernel
end Go.Proofs.YtcabnjinfkjnjaaDoor.XH
