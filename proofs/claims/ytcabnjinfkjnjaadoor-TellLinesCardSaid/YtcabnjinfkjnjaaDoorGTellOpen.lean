/- Opening of a step, a row of steps, a witness. -/
import Derived.Test.YtcabnjinfkjnjaaDoorGTellC
import Derived.Test.YtcabnjinfkjnjaaDoorGOpen
import Derived.Lib.SmallJoins
namespace Go.Proofs.YtcabnjinfkjnjaaDoor.XH
open Go.ChangeShapes Go.WideShapes Go.RowKit Go.Deep Go.Proofs.YtcabnjinfkjnjaaDoorW.PrintWords Go.Proofs.YtcabnjinfkjnjaaDoor.X
set_option linter.unusedVariables false
section
variable {H : Type} {enc : TypeId × Value → H} {P : Program} {w : World} {base : Nat} {spare : Nat → Bool} {held : Bool}
theorem trod_struct5 {t : TypeId} {f0 f1 f2 f3 f4 : Field} {fuel : Nat} {cs : List Value} {x : DataW H × List MemPlace} (ht : P.underlying t = some (.struct #[f0, f1, f2, f3, f4])) (h : DataW.trod enc P w base spare held fuel t cs = some x) :
    ∃ y0 y1 y2 y3 y4 n, cs.length = P.cellsOf t ∧ DataW.trod enc P w base spare held n f0.type ((cs.drop f0.offset).take (P.cellsOf f0.type)) = some y0 ∧
      DataW.trod enc P w base spare held n f1.type ((cs.drop f1.offset).take (P.cellsOf f1.type)) = some y1 ∧ DataW.trod enc P w base spare held n f2.type ((cs.drop f2.offset).take (P.cellsOf f2.type)) = some y2 ∧
      DataW.trod enc P w base spare held n f3.type ((cs.drop f3.offset).take (P.cellsOf f3.type)) = some y3 ∧ DataW.trod enc P w base spare held n f4.type ((cs.drop f4.offset).take (P.cellsOf f4.type)) = some y4 := by
  obtain ⟨xs, n, _, rfl, hl, hlen, hf⟩ := DataW.trod_struct ht h
  match xs, hlen with
  | [y0, y1, y2, y3, y4], _ => exact ⟨y0, y1, y2, y3, y4, n, hl, by simpa using hf 0 f0 rfl, by simpa using hf 1 f1 rfl, by simpa using hf 2 f2 rfl, by simpa using hf 3 f3 rfl, by simpa using hf 4 f4 rfl⟩
theorem trod_struct8 {t : TypeId} {f0 f1 f2 f3 f4 f5 f6 f7 : Field} {fuel : Nat} {cs : List Value} {x : DataW H × List MemPlace} (ht : P.underlying t = some (.struct #[f0, f1, f2, f3, f4, f5, f6, f7])) (h : DataW.trod enc P w base spare held fuel t cs = some x) :
    ∃ y0 y1 y2 y3 y4 y5 y6 y7 n, cs.length = P.cellsOf t ∧ DataW.trod enc P w base spare held n f0.type ((cs.drop f0.offset).take (P.cellsOf f0.type)) = some y0 ∧
      DataW.trod enc P w base spare held n f1.type ((cs.drop f1.offset).take (P.cellsOf f1.type)) = some y1 ∧ DataW.trod enc P w base spare held n f2.type ((cs.drop f2.offset).take (P.cellsOf f2.type)) = some y2 ∧
      DataW.trod enc P w base spare held n f3.type ((cs.drop f3.offset).take (P.cellsOf f3.type)) = some y3 ∧ DataW.trod enc P w base spare held n f4.type ((cs.drop f4.offset).take (P.cellsOf f4.type)) = some y4 ∧
      DataW.trod enc P w base spare held n f5.type ((cs.drop f5.offset).take (P.cellsOf f5.type)) = some y5 ∧ DataW.trod enc P w base spare held n f6.type ((cs.drop f6.offset).take (P.cellsOf f6.type)) = some y6 ∧
      DataW.trod enc P w base spare held n f7.type ((cs.drop f7.offset).take (P.cellsOf f7.type)) = some y7 := by
  obtain ⟨xs, n, _, rfl, hl, hlen, hf⟩ := DataW.trod_struct ht h
  match xs, hlen with
  | [y0, y1, y2, y3, y4, y5, y6, y7], _ => exact ⟨y0, y1, y2, y3, y4, y5, y6, y7, n, hl, by simpa using hf 0 f0 rfl, by simpa using hf 1 f1 rfl, by simpa using hf 2 f2 rfl, by simpa using hf 3 f3 rfl, by simpa using hf 4 f4 rfl, by simpa using hf 5 f5 rfl, by simpa using hf 6 f6 rfl, by simpa using hf 7 f7 rfl⟩
end
theorem lst5 {α : Type} {l : List α} (h : l.length = 5) : ∃ a b c d e, l = [a, b, c, d, e] := by
  match l, h with
  | [a, b, c, d, e], _ => exact ⟨a, b, c, d, e, rfl⟩
theorem lst8 {α : Type} {l : List α} (h : l.length = 8) : ∃ a b c d e f g i, l = [a, b, c, d, e, f, g, i] := by
  match l, h with
  | [a, b, c, d, e, f, g, i], _ => exact ⟨a, b, c, d, e, f, g, i, rfl⟩
instance : Inhabited S46 := ⟨z46⟩
theorem in_wf {n : Int} (h : (Lit.int .i64 n).wf = true) : in64 n := wf_range h
theorem c3cells : Tryd.prog.cellsOf 3 = 1 := by kernel_rfl
set_option maxRecDepth 100000 in
theorem opn_46 : Opn 46 k46 (fun x _ => StepIn x) := ⟨by
  intro H enc w base spare held fuel cs x hx
  obtain ⟨y0, y1, y2, y3, y4, n, hl, h0, h1, h2, h3, h4⟩ := trod_struct5 Tryd.underlying46 hx
  have c46 : Tryd.prog.cellsOf 46 = 5 := by kernel_rfl
  rw [c46] at hl
  obtain ⟨v0, v1, v2, v3, v4, rfl⟩ := lst5 hl
  simp only [c3cells, List.drop_zero, List.drop_succ_cons, List.take_succ_cons, List.take_zero] at h0 h1 h2 h3 h4
  obtain ⟨a0, k0, g0⟩ := (opn_int Tryd.underlying3).go enc w base spare held n _ _ h0
  obtain ⟨a1, k1, g1⟩ := (opn_int Tryd.underlying3).go enc w base spare held n _ _ h1
  obtain ⟨a2, k2, g2⟩ := (opn_int Tryd.underlying3).go enc w base spare held n _ _ h2
  obtain ⟨a3, k3, g3⟩ := (opn_int Tryd.underlying3).go enc w base spare held n _ _ h3
  obtain ⟨a4, k4, g4⟩ := (opn_int Tryd.underlying3).go enc w base spare held n _ _ h4
  exact ⟨⟨a0, a1, a2, a3, a4⟩, ⟨[v0], [v1, v2, v3, v4], rfl, k0, ⟨[v1], [v2, v3, v4], rfl, k1, ⟨[v2], [v3, v4], rfl, k2, ⟨[v3], [v4], rfl, k3, k4⟩⟩⟩⟩, in_wf g0, in_wf g1, in_wf g2, in_wf g3, in_wf g4⟩⟩
theorem opn_30 : Opn 30 (Kd.slice 46 k46) (fun l n => ∃ k, AllG (fun x _ => StepIn x) l k ∧ k + 1 ≤ n) := opn_slice Tryd.underlying30 (by kernel_rfl) opn_46
abbrev S32 : Type := Int × Int × Int × Int × Int × List S46 × Int × Int
def k32 : Kd S32 := Kd.pair (Kd.int .i64) (Kd.pair (Kd.int .i64) (Kd.pair (Kd.int .i64) (Kd.pair (Kd.int .i64) (Kd.pair (Kd.int .i64) (Kd.pair (Kd.slice 46 k46) (Kd.pair (Kd.int .i64) (Kd.int .i64)))))))
def headOf (x : S32) : WitHead := ⟨x.1, x.2.1, x.2.2.1, x.2.2.2.1, x.2.2.2.2.1, x.2.2.2.2.2.2.1, x.2.2.2.2.2.2.2⟩
def stepsOf (x : S32) : List S46 := x.2.2.2.2.2.1
def cells32 (x : S32) (A : Option Addr) (c : Nat) : List Value := [.int .i64 (headOf x).k, .int .i64 (headOf x).r, .int .i64 (headOf x).w1, .int .i64 (headOf x).w2, .int .i64 (headOf x).o, .slice A (stepsOf x).length c, .int .i64 (headOf x).f, .int .i64 (headOf x).s]
theorem k32_open {w : World} {x : S32} {cs : List Value} (h : k32.K w x cs) : ∃ A c, cs = cells32 x A c ∧ (stepsOf x).length ≤ c ∧ k46.C w A (stepsOf x).length (stepsOf x) := by
  obtain ⟨_, _, rfl, rfl, ⟨_, _, rfl, rfl, ⟨_, _, rfl, rfl, ⟨_, _, rfl, rfl, ⟨_, _, rfl, rfl, ⟨_, _, rfl, ⟨A, c, rfl, hc, hC⟩, ⟨_, _, rfl, rfl, rfl⟩⟩⟩⟩⟩⟩⟩ := h
  exact ⟨A, c, rfl, hc, hC⟩
set_option maxRecDepth 100000 in
theorem opn_32 : Opn 32 k32 (fun x _ => WitIn (headOf x) ∧ ∀ y ∈ stepsOf x, StepIn y) := ⟨by
  intro H enc w base spare held fuel cs x hx
  obtain ⟨y0, y1, y2, y3, y4, y5, y6, y7, n, hl, h0, h1, h2, h3, h4, h5, h6, h7⟩ := trod_struct8 Tryd.underlying32 hx
  have c32 : Tryd.prog.cellsOf 32 = 8 := by kernel_rfl
  have c30 : Tryd.prog.cellsOf 30 = 1 := by kernel_rfl
  rw [c32] at hl
  obtain ⟨v0, v1, v2, v3, v4, v5, v6, v7, rfl⟩ := lst8 hl
  simp only [c3cells, c30, List.drop_zero, List.drop_succ_cons, List.take_succ_cons, List.take_zero] at h0 h1 h2 h3 h4 h5 h6 h7
  obtain ⟨a0, k0, g0⟩ := (opn_int Tryd.underlying3).go enc w base spare held n _ _ h0
  obtain ⟨a1, k1, g1⟩ := (opn_int Tryd.underlying3).go enc w base spare held n _ _ h1
  obtain ⟨a2, k2, g2⟩ := (opn_int Tryd.underlying3).go enc w base spare held n _ _ h2
  obtain ⟨a3, k3, g3⟩ := (opn_int Tryd.underlying3).go enc w base spare held n _ _ h3
  obtain ⟨a4, k4, g4⟩ := (opn_int Tryd.underlying3).go enc w base spare held n _ _ h4
  obtain ⟨a5, k5, m5, g5, _⟩ := opn_30.go enc w base spare held n _ _ h5
  obtain ⟨a6, k6, g6⟩ := (opn_int Tryd.underlying3).go enc w base spare held n _ _ h6
  obtain ⟨a7, k7, g7⟩ := (opn_int Tryd.underlying3).go enc w base spare held n _ _ h7
  exact ⟨(a0, a1, a2, a3, a4, a5, a6, a7), ⟨[v0], [v1, v2, v3, v4, v5, v6, v7], rfl, k0, ⟨[v1], [v2, v3, v4, v5, v6, v7], rfl, k1, ⟨[v2], [v3, v4, v5, v6, v7], rfl, k2, ⟨[v3], [v4, v5, v6, v7], rfl, k3, ⟨[v4], [v5, v6, v7], rfl, k4, ⟨[v5], [v6, v7], rfl, k5, ⟨[v6], [v7], rfl, k6, k7⟩⟩⟩⟩⟩⟩⟩, ⟨in_wf g0, in_wf g1, in_wf g2, in_wf g3, in_wf g4, in_wf g6, in_wf g7⟩, fun y hy => by obtain ⟨_, _, h⟩ := allG_mem g5 y hy; exact h⟩⟩
end Go.Proofs.YtcabnjinfkjnjaaDoor.XH
