/- THE LAW HistTells, second part: where a history is not small; its argument opened. -/
import Derived.Test.YtcabnjinfkjnjaaDoorPureHistTells
namespace Go.Proofs.YtcabnjinfkjnjaaDoor.XH
open Go.ChangeShapes Go.WideShapes Go.RowKit Go.Proofs.YtcabnjinfkjnjaaDoorW.PrintWords Go.Proofs.YtcabnjinfkjnjaaDoorW.PrintLast Go.Proofs.YtcabnjinfkjnjaaDoorW.PrintMore Go.Proofs.YtcabnjinfkjnjaaDoor.X
set_option linter.unusedVariables false
set_option maxHeartbeats 1000000 in
set_option maxRecDepth 100000 in
theorem histTells_no1 (A B : Option Addr) (c e : Nat) (a b : List (List S61)) (i s p : Int) (ha : HistOk a) (w : World) (hCa : (Kd.slice 61 k61).C w A a.length a) (hca : a.length ≤ c) (hsa : smallV a 60 = false) :
    Calls Tryd.prog 7 #[.agg #[.slice A a.length c, .slice B b.length e, .int .i64 i, .int .i64 s, .int .i64 p]] w (BoolPost true w) := by
  have HCa := Lib.hid hCa
  have HSa := Lib.hid hsa
  clear hCa hsa
  go_enter Tryd.func7, Tryd.ntmps7
  go_wp2
  go_region
  obtain ⟨W0, hW0⟩ : ∃ W0, ((w.alloc (.cells #[.slice A a.length c, .slice B b.length e, .int .i64 i, .int .i64 s, .int .i64 p] 64)).alloc (.cells #[.int .i64 s, .int .i64 p] 55)).drew = W0 := ⟨_, rfl⟩
  have hB0 : Below w.heap.size w W0 := by rw [← hW0]; exact below_drew (below_alloc (below_alloc (Below.refl _ _) _) _)
  rw [hW0]
  clear hW0
  have HB0 := Lib.hid hB0
  clear hB0
  have CA := Lib.hid (fun W (hB : Below w.heap.size w W) => small_any A c a ha W (Kd.C_below HCa.out hB) hca)
  rw [HSa.out] at CA
  go_wp2_with fail
  refine (CA.out W0 HB0.out).mono ?_
  rintro e1 W1 ⟨rfl, hB1⟩
  have HB1 := Lib.hid (below_step HB0.out hB1)
  clear hB1
  go_wp2_with fail
  refine (awake_any W1).mono ?_
  rintro e1 W2 ⟨rfl, hB⟩
  have HB2 := Lib.hid (below_step HB1.out hB)
  clear hB
  go_wp2_with fail
  go_ret
  exact ⟨rfl, HB2.out⟩
set_option maxHeartbeats 1000000 in
set_option maxRecDepth 100000 in
theorem histTells_no2 (A B : Option Addr) (c e : Nat) (a b : List (List S61)) (i s p : Int) (ha : HistOk a) (hb : HistOk b) (w : World) (hCa : (Kd.slice 61 k61).C w A a.length a) (hCb : (Kd.slice 61 k61).C w B b.length b) (hca : a.length ≤ c) (hcb : b.length ≤ e) (hsa : smallV a 60 = true) (hsb : smallV b 60 = false) :
    Calls Tryd.prog 7 #[.agg #[.slice A a.length c, .slice B b.length e, .int .i64 i, .int .i64 s, .int .i64 p]] w (BoolPost true w) := by
  have HCa := Lib.hid hCa
  have HCb := Lib.hid hCb
  have HSa := Lib.hid hsa
  have HSb := Lib.hid hsb
  clear hCa hCb hsa hsb
  go_enter Tryd.func7, Tryd.ntmps7
  go_wp2
  go_region
  obtain ⟨W0, hW0⟩ : ∃ W0, ((w.alloc (.cells #[.slice A a.length c, .slice B b.length e, .int .i64 i, .int .i64 s, .int .i64 p] 64)).alloc (.cells #[.int .i64 s, .int .i64 p] 55)).drew = W0 := ⟨_, rfl⟩
  have hB0 : Below w.heap.size w W0 := by rw [← hW0]; exact below_drew (below_alloc (below_alloc (Below.refl _ _) _) _)
  rw [hW0]
  clear hW0
  have HB0 := Lib.hid hB0
  clear hB0
  have CA := Lib.hid (fun W (hB : Below w.heap.size w W) => small_any A c a ha W (Kd.C_below HCa.out hB) hca)
  have CB := Lib.hid (fun W (hB : Below w.heap.size w W) => small_any B e b hb W (Kd.C_below HCb.out hB) hcb)
  rw [HSa.out] at CA
  rw [HSb.out] at CB
  go_wp2_with fail
  refine (CA.out W0 HB0.out).mono ?_
  rintro e1 W1 ⟨rfl, hB1⟩
  have HB1 := Lib.hid (below_step HB0.out hB1)
  clear hB1
  go_wp2_with fail
  refine (CB.out W1 HB1.out).mono ?_
  rintro e1 W2 ⟨rfl, hB2⟩
  have HB2 := Lib.hid (below_step HB1.out hB2)
  clear hB2
  go_wp2_with fail
  refine (awake_any W2).mono ?_
  rintro e1 W3 ⟨rfl, hB⟩
  have HB3 := Lib.hid (below_step HB2.out hB)
  clear hB
  go_wp2_with fail
  go_ret
  exact ⟨rfl, HB3.out⟩
theorem histTells_any (A B : Option Addr) (c e : Nat) (a b : List (List S61)) (i s p : Int) (ha : HistOk a) (hb : HistOk b) (hi : i ≤ 9223372036854775807) (w : World) (hCa : (Kd.slice 61 k61).C w A a.length a) (hCb : (Kd.slice 61 k61).C w B b.length b) (hca : a.length ≤ c) (hcb : b.length ≤ e) :
    Calls Tryd.prog 7 #[.agg #[.slice A a.length c, .slice B b.length e, .int .i64 i, .int .i64 s, .int .i64 p]] w (BoolPost true w) := by
  cases hsa : smallV a 60 with
  | false => exact histTells_no1 A B c e a b i s p ha w hCa hca hsa
  | true =>
    cases hsb : smallV b 60 with
    | false => exact histTells_no2 A B c e a b i s p ha hb w hCa hCb hca hcb hsa hsb
    | true => exact histTells_yes A B c e a b i s p ha hb hi w hCa hCb hca hcb hsa hsb

abbrev S64 : Type := List (List S61) × (List (List S61) × (Int × (Int × Int)))
def k64 : Kd S64 := Kd.pair (Kd.slice 51 (Kd.slice 61 k61)) (Kd.pair (Kd.slice 51 (Kd.slice 61 k61)) (Kd.pair (Kd.int .i64) (Kd.pair (Kd.int .i64) (Kd.int .i64))))
def askBound (x : S64) (n : Nat) : Prop := ∃ q r, q + r ≤ n ∧ (∃ k, AllG (fun l n => ∃ k, AllG opBound l k ∧ k + 1 ≤ n) x.1 k ∧ k + 1 ≤ q) ∧ (∃ k, AllG (fun l n => ∃ k, AllG opBound l k ∧ k + 1 ≤ n) x.2.1 k ∧ k + 1 ≤ r) ∧ (Lit.int .i64 x.2.2.1).wf = true
theorem list5 {α : Type} {l : List α} (h : l.length = 5) : ∃ a b c d e, l = [a, b, c, d, e] := by
  match l, h with
  | [a, b, c, d, e], _ => exact ⟨a, b, c, d, e, rfl⟩
theorem list2 {α : Type} {l : List α} (h : l.length = 2) : ∃ a b, l = [a, b] := by
  match l, h with
  | [a, b], _ => exact ⟨a, b, rfl⟩
theorem opn_55 : Opn 55 (Kd.pair (Kd.int .i64) (Kd.int .i64)) (fun _ _ => True) := ⟨by
  intro H enc w base spare held fuel cs x hx
  obtain ⟨y0, y1, n, rfl, hl, h0, h1⟩ := trod_struct2 Tryd.underlying55 hx
  have c55 : Tryd.prog.cellsOf 55 = 2 := by kernel_rfl
  have c3 : Tryd.prog.cellsOf 3 = 1 := by kernel_rfl
  rw [c55] at hl
  obtain ⟨v0, v1, rfl⟩ := list2 hl
  simp only [c3, List.drop_zero, List.drop_succ_cons, List.take_succ_cons, List.take_zero] at h0 h1
  obtain ⟨a, ha, _⟩ := (opn_int Tryd.underlying3).go enc w base spare held n _ _ h0
  obtain ⟨b, hb, _⟩ := (opn_int Tryd.underlying3).go enc w base spare held n _ _ h1
  exact ⟨(a, b), ⟨[v0], [v1], rfl, ha, hb⟩, trivial⟩⟩
set_option maxRecDepth 100000 in
theorem opn_64 : Opn 64 k64 askBound := ⟨by
  intro H enc w base spare held fuel cs x hx
  obtain ⟨y0, y1, y2, y3, n, rfl, hl, h0, h1, h2, h3⟩ := Go.Joins.trod_struct4 Tryd.underlying64 hx
  have c64 : Tryd.prog.cellsOf 64 = 5 := by kernel_rfl
  have c49 : Tryd.prog.cellsOf 49 = 1 := by kernel_rfl
  have c55 : Tryd.prog.cellsOf 55 = 2 := by kernel_rfl
  have c3 : Tryd.prog.cellsOf 3 = 1 := by kernel_rfl
  rw [c64] at hl
  obtain ⟨v0, v1, v2, v3, v4, rfl⟩ := list5 hl
  simp only [c49, c55, c3, List.drop_zero, List.drop_succ_cons, List.take_succ_cons, List.take_zero] at h0 h1 h2 h3
  obtain ⟨a, ha, hga⟩ := opn_49.go enc w base spare held n _ _ h0
  obtain ⟨b, hb, hgb⟩ := opn_49.go enc w base spare held n _ _ h1
  obtain ⟨i, hi, hgi⟩ := (opn_int Tryd.underlying3).go enc w base spare held n _ _ h2
  obtain ⟨sp, hsp, _⟩ := opn_55.go enc w base spare held n _ _ h3
  refine ⟨(a, (b, (i, sp))), ⟨[v0], [v1, v2, v3, v4], rfl, ha, ⟨[v1], [v2, v3, v4], rfl, hb, ⟨[v2], [v3, v4], rfl, hi, hsp⟩⟩⟩, _, _, ?_, hga, hgb, hgi⟩
  show Rows.uptoBulk y0.1 + Rows.uptoBulk y1.1 ≤ Rows.uptoBulk (DataW.agg [y0.1, y1.1, y2.1, y3.1])
  simp only [Rows.uptoBulk, Rows.uptoBulkAll]
  omega⟩
theorem k64_open {w : World} {x : S64} {cs : List Value} (h : k64.K w x cs) : ∃ A c B e, cs = [.slice A x.1.length c, .slice B x.2.1.length e, .int .i64 x.2.2.1, .int .i64 x.2.2.2.1, .int .i64 x.2.2.2.2] ∧ x.1.length ≤ c ∧ x.2.1.length ≤ e ∧ (Kd.slice 61 k61).C w A x.1.length x.1 ∧ (Kd.slice 61 k61).C w B x.2.1.length x.2.1 := by
  obtain ⟨c1, r1, rfl, ⟨A, c, rfl, h1, h2⟩, ⟨c2, r2, rfl, ⟨B, e, rfl, h3, h4⟩, ⟨c3, r3, rfl, h5, ⟨c4, r4, rfl, h6, h7⟩⟩⟩⟩ := h
  have e5 : c3 = [.int .i64 x.2.2.1] := h5
  have e6 : c4 = [.int .i64 x.2.2.2.1] := h6
  have e7 : r4 = [.int .i64 x.2.2.2.2] := h7
  subst e5 e6 e7
  exact ⟨A, c, B, e, rfl, h1, h3, h2, h4⟩
theorem histTells_walk (x : S64) (n : Nat) (hn : n ≤ 1048576) (hx : askBound x n) (A B : Option Addr) (c e : Nat) (w : World) (hca : x.1.length ≤ c) (hcb : x.2.1.length ≤ e) (hCa : (Kd.slice 61 k61).C w A x.1.length x.1) (hCb : (Kd.slice 61 k61).C w B x.2.1.length x.2.1) :
    Calls Tryd.prog 7 #[.agg #[.slice A x.1.length c, .slice B x.2.1.length e, .int .i64 x.2.2.1, .int .i64 x.2.2.2.1, .int .i64 x.2.2.2.2]] w fun e w' => e = .returned (.bool true) ∧ Below w.heap.size w w' := by
  obtain ⟨q, r, hqr, h1, h2, h3⟩ := hx
  exact histTells_any A B c e x.1 x.2.1 _ _ _ (histOk_of h1 (by omega)) (histOk_of h2 (by omega)) (wf_range h3).2 w hCa hCb hca hcb
end Go.Proofs.YtcabnjinfkjnjaaDoor.XH
