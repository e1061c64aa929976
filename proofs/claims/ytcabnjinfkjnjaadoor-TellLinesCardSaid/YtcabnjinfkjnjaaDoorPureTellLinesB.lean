/- THE LAW TellLines, second part: how many lines a text has; its argument opened. -/
import Derived.Test.YtcabnjinfkjnjaaDoorPureTellLines
import Derived.Test.YtcabnjinfkjnjaaDoorPureNumM
import Derived.Test.YtcabnjinfkjnjaaDoorGTellOpen
namespace Go.Proofs.YtcabnjinfkjnjaaDoor.XH
open Go.RowKit Go.Proofs.YtcabnjinfkjnjaaDoorW.PrintWords Go.Proofs.YtcabnjinfkjnjaaDoorW.PrintLast Go.Proofs.YtcabnjinfkjnjaaDoorW.PrintMore Go.Proofs.YtcabnjinfkjnjaaDoor.X
set_option linter.unusedVariables false
theorem itoa_chars (n : Int) : ∀ b ∈ Lib.itoa n, isDig b = true ∨ b = 45 := by
  intro b hb
  unfold Lib.itoa at hb
  split at hb
  · rcases List.mem_cons.1 hb with h | h
    · exact .inr h
    · exact .inl (decDigits_all _ b h)
  · exact .inl (decDigits_all _ b hb)
theorem itoa_no (n : Int) : (Lib.itoa n).countP (fun b => b == 10) = 0 := by
  rw [List.countP_eq_zero]
  intro b hb h
  have h10 : b = 10 := by simpa using h
  subst h10
  rcases itoa_chars n 10 hb with h | h
  · exact absurd h (by decide)
  · exact absurd h (by decide)
theorem numB_lines (name : List UInt8) (l : List Int) (hn : name.countP (fun b => b == 10) = 0) : (numB name l).countP (fun b => b == 10) = 1 := by
  have h : ∀ l : List Int, (l.flatMap (fun n => 32 :: Lib.itoa n)).countP (fun b => b == 10) = 0 := by
    intro l
    induction l with
    | nil => rfl
    | cons n l ih =>
      rw [List.flatMap_cons, List.countP_append, ih, List.countP_cons, itoa_no]
      rfl
  unfold numB
  rw [List.countP_append, List.countP_append, hn, h]
  rfl
theorem stepsT_lines : ∀ l : List S46, (stepsT l).countP (fun b => b == 10) = l.length
  | [] => rfl
  | x :: l => by
    have h1 : (sayStep x).countP (fun b => b == 10) = 1 := numB_lines _ _ (by decide)
    have h2 := stepsT_lines l
    unfold stepsT at h2 ⊢
    rw [List.flatMap_cons, List.countP_append, h1, h2, List.length_cons]
    omega
theorem witT_lines (lv : Int) (x : WitHead) (l : List S46) : (witT lv x l).countP (fun b => b == 10) = 2 + l.length := by
  unfold witT levelT headT
  rw [List.countP_append, List.countP_append, numB_lines _ _ (by decide), numB_lines _ _ (by decide), stepsT_lines]
  omega
theorem cnt_all (l : List UInt8) : cnt ⟨l.toArray⟩ (⟨l.toArray⟩ : ByteArray).size = l.countP (fun b => b == 10) := by
  have e : (⟨l.toArray⟩ : ByteArray).size = l.length := by simp [ByteArray.size]
  unfold cnt
  rw [e]
  show (l.toArray.toList.take l.length).countP _ = _
  rw [List.toList_toArray, List.take_length]
theorem witT_len (lv : Int) (hlv : in64 lv) (x : WitHead) (hx : WitIn x) (l : List S46) (hi : ∀ y ∈ l, StepIn y) : (witT lv x l).length ≤ 200 + 115 * l.length := by
  have h1 := numB_len [105, 110, 99, 111, 110, 115, 105, 115, 116, 101, 110, 116] [lv] (by
    intro n hn
    rw [List.mem_singleton.1 hn]
    exact hlv)
  have h2 := numB_len [112, 97, 116, 116, 101, 114, 110] [x.k, x.r, x.w1, x.w2, x.o, x.f, x.s] (by
    intro n hn
    simp only [List.mem_cons, List.not_mem_nil, or_false] at hn
    obtain ⟨q1, q2, q3, q4, q5, q6, q7⟩ := hx
    rcases hn with rfl | rfl | rfl | rfl | rfl | rfl | rfl <;> assumption)
  have h3 := stepsT_len l hi
  unfold witT levelT headT
  rw [List.length_append, List.length_append]
  simp only [List.length_cons, List.length_nil] at h1 h2
  omega
theorem errT_len (e a i j : Int) (h1 : in64 e) (h2 : in64 a) (h3 : in64 i) (h4 : in64 j) : (errT e a i j).length ≤ 200 := by
  have h := numB_len [101, 114, 114, 111, 114] [e, a, i, j] (by
    intro n hn
    simp only [List.mem_cons, List.not_mem_nil, or_false] at hn
    rcases hn with rfl | rfl | rfl | rfl <;> assumption)
  unfold errT
  simp only [List.length_cons, List.length_nil] at h
  omega
set_option maxHeartbeats 1000000 in
set_option maxRecDepth 100000 in
theorem tellLines_no (x : WitHead) (A : Option Addr) (c : Nat) (l : List S46) (hl : 60 < l.length) (hl2 : l.length ≤ 9223372036854775807) (v1 v2 : Value) (w : World) (hT : Tabs w) :
    Calls Tryd.prog 5 #[.agg #[.int .i64 x.k, .int .i64 x.r, .int .i64 x.w1, .int .i64 x.w2, .int .i64 x.o, .slice A l.length c, .int .i64 x.f, .int .i64 x.s], v1, v2] w (TrueIs w) := by
  have HT := Lib.hid hT
  clear hT
  go_enter Tryd.func5, Tryd.ntmps5
  go_wp2_with fail
  refine (awake26 _ (HT.out.below (below_alloc (Below.refl _ _) _))).mono ?_
  rintro e1 W4 ⟨rfl, hB⟩
  have HB4 := Lib.hid (below_step (below_alloc (Below.refl w.heap.size w) _) hB)
  clear hB
  go_wp2_with fail
  go_ret
  exact ⟨rfl, HB4.out⟩
theorem tellLines_any (x : WitHead) (hx : WitIn x) (A : Option Addr) (c : Nat) (l : List S46) (hi : ∀ y ∈ l, StepIn y) (lv at_ : Int) (hlv : in64 lv) (hat : in64 at_) (w : World) (hT : Tabs w) (hC : k46.C w A l.length l) :
    Calls Tryd.prog 5 #[.agg #[.int .i64 x.k, .int .i64 x.r, .int .i64 x.w1, .int .i64 x.w2, .int .i64 x.o, .slice A l.length c, .int .i64 x.f, .int .i64 x.s], .int .i64 lv, .int .i64 at_] w (TrueIs w) := by
  by_cases h : l.length ≤ 60
  · have sz : ∀ l : List UInt8, (⟨l.toArray⟩ : ByteArray).size = l.length := fun l => by simp [ByteArray.size]
    have hz : in64 0 := ⟨by omega, by omega⟩
    have h2 : in64 2 := ⟨by omega, by omega⟩
    refine tellLines_yes x hx A c l h hi lv at_ hlv hat w hT hC ?_ ?_ ?_ ?_
    · rw [sz]; have := witT_len lv hlv x hx l hi; omega
    · rw [sz]; have := errT_len 2 at_ 0 0 h2 hat hz hz; omega
    · rw [cnt_all, witT_lines]
    · rw [cnt_all]; exact numB_lines _ _ (by decide)
  · exact tellLines_no x A c l (by omega) hC.2.1 _ _ w hT
theorem tellLines_walk (x : S32) (hx : WitIn (headOf x) ∧ ∀ y ∈ stepsOf x, StepIn y) (A : Option Addr) (c : Nat) (lv at_ : Int) (h1 : (Lit.int .i64 lv).wf = true) (h2 : (Lit.int .i64 at_).wf = true) (w : World) (hT : Tabs w) (hC : k46.C w A (stepsOf x).length (stepsOf x)) :
    Calls Tryd.prog 5 #[.agg (cells32 x A c).toArray, .int .i64 lv, .int .i64 at_] w fun e w' => e = .returned (.bool true) ∧ Below w.heap.size w w' :=
  tellLines_any (headOf x) hx.1 A c (stepsOf x) hx.2 lv at_ (in_wf h1) (in_wf h2) w hT hC
end Go.Proofs.YtcabnjinfkjnjaaDoor.XH
