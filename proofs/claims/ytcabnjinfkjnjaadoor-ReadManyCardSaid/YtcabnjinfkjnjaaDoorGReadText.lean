/- GIVEN CONTRACT (this session's): read.Text, in the form in which the print states its own. -/
import Derived.Test.YtcabnjinfkjnjaaDoorXHx5
namespace Go.Proofs.YtcabnjinfkjnjaaDoor.XH
open Go.RowKit Go.Proofs.YtcabnjinfkjnjaaDoorW.PrintWords Go.Proofs.YtcabnjinfkjnjaaDoorW.PrintLast Go.Proofs.YtcabnjinfkjnjaaDoor.X
set_option linter.unusedVariables false

def read_Text.fin (h : List (List S61)) (i e : Int) : List (List S61) × Int × Int := if e = 0 then (h, 0, 0) else ([], i, e)
def read_Text.l0 (a0 : ByteArray) : Nat → List (List S61) → ByteArray → Int → Int → Int → Option (List (List S61) × Int × Int)
  | 0, _, _, _, _, _ => none
  | k + 1, h, s, i, ops, e => if e = 0 then (if i < a0.size then ((read_cursor_line.f k s i ops e).bind fun b => if h.length < 4398046511104 then read_Text.l0 a0 k (h ++ [b.1]) b.2.1 b.2.2.1 b.2.2.2.1 b.2.2.2.2 else none) else some (read_Text.fin h i e)) else some (read_Text.fin h i e)
def read_Text.f (k : Nat) (a0 : ByteArray) : Option (List (List S61) × Int × Int) := read_Text.l0 a0 k [] a0 0 0 0
theorem read_Text.mono_l (a0 : ByteArray) : ∀ k y0 y1 y2 y3 y4, LeO (read_Text.l0 a0 k y0 y1 y2 y3 y4) (read_Text.l0 a0 (k + 1) y0 y1 y2 y3 y4) := by
  intro k
  induction k with
  | zero => intro _ _ _ _ _ r h; simp [read_Text.l0] at h
  | succ k ih =>
    intro y0 y1 y2 y3 y4
    rw [read_Text.l0]
    conv => rhs; rw [read_Text.l0]
    refine LeO.ite (LeO.ite ?_ (LeO.refl _)) (LeO.refl _)
    refine LeO.bind (read_cursor_line.mono _ _ _ _ _) (fun _ => ?_)
    exact LeO.ite (ih _ _ _ _ _) (LeO.refl _)
theorem read_Text.mono : ∀ a0 k, LeO (read_Text.f k a0) (read_Text.f (k + 1) a0) := fun a0 k => read_Text.mono_l a0 k _ _ _ _ _
def TextPost (w : World) (r : List (List S61) × Int × Int) (e : Ending) (w' : World) : Prop :=
  ∃ v0_ : Value, e = .returned (.tuple #[v0_, .int .i64 r.2.1, .int .i64 r.2.2]) ∧ Kd.S (Kd.slice 61 k61) 51 w' w.heap.size (fun _ => True) v0_ r.1 ∧ Below w.heap.size w w'
theorem new_at (w : World) (o : Obj) : (w.alloc o).heap[w.heap.size]? = some o := by
  show (w.heap.push o)[w.heap.size]? = some o
  exact Array.getElem?_push_size
set_option maxHeartbeats 3200000 in
set_option maxRecDepth 100000 in
theorem read_Text.all (k : Nat) (a0 : ByteArray) (r : List (List S61) × Int × Int) (w : World) (h : read_Text.f k a0 = some r) : Calls Tryd.prog 43 #[.string a0] w (TextPost w r) := by
  have H' := Aside0.mk (show read_Text.l0 a0 k [] a0 0 0 0 = some r from h)
  clear h
  go_enter Tryd.func43, Tryd.ntmps43
  go_wp2
  go_loopg [6] k (fun kq v6 w' => ∃ (h : List (List S61)) (s : ByteArray) (i ops e : Int), Aside0 (read_Text.l0 a0 kq h s i ops e = some r) ∧ Aside0 (kq ≤ k) ∧ Aside0 (Kd.S (Kd.slice 61 k61) 51 w' w.heap.size (fun k_ => k_ ≠ w.heap.size) v6 h) ∧ Aside0 (IsS110 w w' w.heap.size s i ops e) ∧ Aside0 (Below w.heap.size w w'))
  case atStart => exact ⟨[], a0, 0, 0, 0, H', ⟨Nat.le_refl _⟩, ⟨Kd.S_nil _ _ _ _ _⟩, ⟨⟨new_at w _, Nat.le_refl _⟩⟩, ⟨below_alloc (Below.refl _ _) _⟩⟩
  case round =>
    clear H'
    obtain ⟨h, s, i, ops, e, HA, HK1, HO, HI, HB⟩ := hrel
    cases gk with
    | zero => exact absurd HA.out (by simp [read_Text.l0])
    | succ k1 =>
      have H := HA.out
      clear HA
      simp only [read_Text.l0] at H
      obtain ⟨HG, hg⟩ := HI.out
      have c1 := cellS110_1 HG
      have c3 := cellS110_3 HG
      clear HG hg
      by_cases he : e = 0
      · rw [if_pos he] at H
        subst he
        by_cases hi : i < a0.size
        · rw [if_pos hi] at H
          cases hr : read_cursor_line.f k1 s i ops 0 with
          | none => rw [hr] at H; cases H
          | some b =>
            obtain ⟨b1, b2, b3, b4, b5⟩ := b
            rw [hr] at H
            simp only [Option.bind_some] at H
            by_cases hl : h.length < 4398046511104
            · rw [if_pos hl] at H
              have HL := Aside0.mk hl
              have HN := Aside0.mk H
              have HR := Aside0.mk hr
              clear H hl hr
              go_wp2_with fail
              refine (read_cursor_line.calls k1 _ s i ops 0 b1 b2 b3 b4 b5 w _ HI.out HB.out HR.out).mono ?_
              rintro e w2 ⟨v, rfl, hv, hi2, hb2, hk2⟩
              obtain ⟨A, c, rfl⟩ := Kd.R_slice hv
              have hg1 := IsS110.lt HI.out
              have HS2 := Aside0.mk (Kd.S_mono (ok' := fun k_ => k_ ≠ w.heap.size ∧ ¬ (wr.heap.size ≤ k_ ∧ k_ < w2.heap.size)) (Kd.S_keep (Kd.S_bound HO.out) hk2 (fun k_ hk => hk.1)) (fun k_ hk => ⟨hk.1, fun h2 => by have := hk.2.2.1; omega⟩))
              have HLT := Aside0.mk (Kd.S_lt HO.out)
              have HV := Aside0.mk (Kd.R_mono (ok' := fun k_ => wr.heap.size ≤ k_ ∧ k_ < w2.heap.size) (Kd.R_lower (Kd.R_bound hv) (Nat.le_of_lt hg1)) (fun k_ hk => ⟨hk.2.1, hk.2.2.1⟩))
              have HI2 := Aside0.mk hi2
              have HB2 := Aside0.mk hb2
              have HSZ := Aside0.mk (show wr.heap.size ≤ w2.heap.size from hk2.1)
              have HG1 := Aside0.mk hg1
              have HAW := Aside0.mk (Kd.S_away (g := w.heap.size) HO.out (fun k_ hk => hk))
              clear hv hi2 hb2 hk2 hg1
              go_wp2_with ((with_reducible refine gate_builtin (b := .append) (xs := #[.tmp 24, .tmp 27]) rfl ?_); at_builtin; refine Kd.S_append (Kd.slice 61 k61) (w0 := w) w.heap.size rfl (.tmp 24) (.tmp 27) 49 51 (.slice none 0 0) 24 rfl Tryd.underlying49 info51 rfl (by decide) (by omega) u6 h b1 [.slice A b1.length c] (fun k_ => k_ ≠ w.heap.size) (fun k_ => wr.heap.size ≤ k_ ∧ k_ < w2.heap.size) rfl rfl ?aP ?aK ?aF ?aO ?aB ?aS ?aL ?_; (case aP => exact Kd.M_row HV.out); (case aK => exact (fun k_ hk => ⟨by have := HG1.out; omega, fun e_ => by have := HLT.out k_ e_.symm; omega⟩)); (case aF => exact (fun k_ hk => by have := HG1.out; have := HSZ.out; omega)); (case aO => exact HS2.out); (case aB => exact HB2.out); (case aS => exact HB2.out.size); (case aL => have := HL.out; omega); intro v1 w1 hS hB1 hg hat; have HS := Aside0.mk hS; have HB3 := Aside0.mk hB1; have HI3 := Aside0.mk (IsS110.grown HI2.out hg HAW.out); clear hS hB1 hg hat)
              go_roundg k1
              case measure => have := HK1.out; omega
              case rel => exact ⟨h ++ [b1], b2, b3, b4, b5, HN, ⟨by have := HK1.out; omega⟩, HS, HI3, HB3⟩
            · rw [if_neg hl] at H; cases H
        · rw [if_neg hi] at H
          obtain rfl := Option.some.inj H
          have hi' : ¬ i < (a0.size : Int) := hi
          have HX := Aside0.mk hi
          clear hi H
          go_wp2
          go_ret3
          refine ⟨u6, rfl, ?_, HB.out⟩
          exact Kd.S_mono HO.out (fun _ _ => trivial)
      · rw [if_neg he] at H
        obtain rfl := Option.some.inj H
        have h1 : (e == 0) = false := by simpa using he
        have h2 : (e != 0) = true := by simpa using he
        have HE := Aside0.mk he
        clear he H
        go_wp2
        repeat (go_quiet (fail); try go_wp2)
        go_ret3
        refine ⟨.slice none 0 0, ?_, ?_, pw_below_drewN HB.out _⟩
        · unfold read_Text.fin; rw [if_neg HE.out]; rfl
        · unfold read_Text.fin; rw [if_neg HE.out]; exact Kd.S_nil _ _ _ _ _
theorem read_Text.calls (k : Nat) (a0 : ByteArray) (r1 : List (List S61)) (r2 r3 : Int) (w : World) (h : read_Text.f k a0 = some (r1, r2, r3)) :
    Calls Tryd.prog 43 #[.string a0] w fun e w' => ∃ v0_ : Value, e = .returned (.tuple #[v0_, .int .i64 r2, .int .i64 r3]) ∧ Kd.S (Kd.slice 61 k61) 51 w' w.heap.size (fun _ => True) v0_ r1 ∧ Below w.heap.size w w' :=
  read_Text.all k a0 (r1, r2, r3) w h
end Go.Proofs.YtcabnjinfkjnjaaDoor.XH
