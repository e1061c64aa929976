/- Opening of arguments: what can be read as data of a type (DataW.Trod) is of the printed kind; and its bulk. -/
import Derived.Test.YtcabnjinfkjnjaaDoorXHx0
import Derived.Test.YtcabnjinfkjnjaaDoorRows
import Derived.Deep.Slices
import Derived.Deep.Strs
import Derived.ChangeArms
namespace Go.Proofs.YtcabnjinfkjnjaaDoor.XH
open Go.ChangeShapes Go.WideShapes Go.RowKit Go.Deep Go.Proofs.YtcabnjinfkjnjaaDoorW.PrintWords Go.Proofs.YtcabnjinfkjnjaaDoor.X
set_option linter.unusedVariables false

/-- What reads as data of type t is of kind d; G: what the reading says of it, the data's bulk beside it. -/
structure Opn {α : Type} (t : TypeId) (d : Kd α) (G : α → Nat → Prop) : Prop where
  go : ∀ {H : Type} (enc : TypeId × Value → H) (w : World) (base : Nat) (spare : Nat → Bool) (held : Bool) (fuel : Nat) (cs : List Value) (x : DataW H × List MemPlace),
    DataW.trod enc Tryd.prog w base spare held fuel t cs = some x → ∃ a, d.K w a cs ∧ G a (Rows.uptoBulk x.1)
theorem opn_int {t : TypeId} {k : IntKind} (ht : Tryd.prog.underlying t = some (.int k)) : Opn t (Kd.int k) (fun a n => (Lit.int k a).wf = true) := ⟨by
  intro H enc w base spare held fuel cs x hx
  obtain ⟨n, rfl, rfl, hw⟩ := DataW.trod_int ht hx
  exact ⟨n, rfl, hw⟩⟩
theorem opn_bool {t : TypeId} (ht : Tryd.prog.underlying t = some .bool) : Opn t Kd.bool (fun _ _ => True) := ⟨by
  intro H enc w base spare held fuel cs x hx
  obtain ⟨b, rfl, rfl⟩ := DataW.trod_bool ht hx
  exact ⟨b, rfl, trivial⟩⟩
theorem opn_string {t : TypeId} (ht : Tryd.prog.underlying t = some .string) : Opn t Kd.string (fun s n => s.size + 1 ≤ n) := ⟨by
  intro H enc w base spare held fuel cs x hx
  obtain ⟨s, rfl, rfl, hs⟩ := DataW.trod_string ht hx
  refine ⟨s, rfl, ?_⟩
  show s.size + 1 ≤ Rows.uptoBulk (DataW.lit (.string s.data.toList))
  unfold Rows.uptoBulk
  rw [Array.length_toList]
  exact Nat.le_refl _⟩
/-- The elements of a list, each with a part of the whole's bulk. -/
inductive AllG {α : Type} (G : α → Nat → Prop) : List α → Nat → Prop
  | nil (n : Nat) : AllG G [] n
  | cons {a : α} {l : List α} {m n k : Nat} : G a m → AllG G l n → m + n ≤ k → AllG G (a :: l) k
theorem allG_of {α H : Type} {G : α → Nat → Prop} (D : Nat → DataW H) : ∀ (len : Nat) (f : Nat → α), (∀ i, i < len → G (f i) (Rows.uptoBulk (D i))) → AllG G ((List.range len).map f) (Rows.uptoBulkAll ((List.range len).map D)) := by
  intro len
  induction len generalizing D with
  | zero => intro f _; exact .nil _
  | succ len ih =>
    intro f h
    rw [List.range_succ_eq_map, List.map_cons, List.map_cons, List.map_map, List.map_map]
    unfold Rows.uptoBulkAll
    exact .cons (h 0 (by omega)) (ih (fun i => D (i + 1)) (fun i => f (i + 1)) (fun i hi => h (i + 1) (by omega))) (Nat.le_refl _)
theorem opn_slice {α : Type} {t e : TypeId} {d : Kd α} {G : α → Nat → Prop} [Inhabited α] (ht : Tryd.prog.underlying t = some (.slice e)) (hc : Tryd.prog.cellsOf e = d.sz) (he : Opn e d G) : Opn t (Kd.slice e d) (fun l n => ∃ k, AllG G l k ∧ k + 1 ≤ n) := ⟨by
  intro H enc w base spare held fuel cs x hx
  rcases open_slice ht hx with ⟨rfl, rfl⟩ | ⟨a, len, cap, m, n, D, Pl, rfl, hb, hl, hm, hmm, rfl, hel⟩
  · exact ⟨[], ⟨none, 0, rfl, Nat.le_refl _, rfl, by simp, fun h => absurd h (by simp)⟩, 0, .nil _, by unfold Rows.uptoBulk; omega⟩
  · have hle : len ≤ m := by rw [hmm]; split <;> omega
    have each : ∀ i, i < len → ∃ y : α, ∃ c, c.length = d.sz ∧ d.K w y c ∧ (∀ j u, c[j]? = some u → w.cell? (a.add (i * d.sz + j)) = some u) ∧ G y (Rows.uptoBulk (D i)) := by
      intro i hi
      obtain ⟨c, hcell, htr⟩ := hel i (by omega)
      rw [hc] at hcell
      obtain ⟨_, hlen, hget⟩ := World.cells?_some hcell
      obtain ⟨y, hk, hg⟩ := he.go enc w base spare held n c _ htr
      refine ⟨y, c, hlen, hk, fun j u hu => ?_, hg⟩
      have hj : j < d.sz := by rw [← hlen]; exact (List.getElem?_eq_some_iff.1 hu).1
      rw [← Go.Deep.add_add, hget j hj, hu]
    obtain ⟨f, hf⟩ := choose_lt each
    have hlen2 : ((List.range len).map f).length = len := by simp
    refine ⟨(List.range len).map f, ⟨some a, cap, by rw [hlen2], by rw [hlen2]; exact hl, rfl, ?_, fun _ => ⟨a, rfl, fun j p hj => ?_⟩⟩, _, allG_of D len f (fun i hi => by obtain ⟨c, _, _, _, hg⟩ := hf i hi; exact hg), ?_⟩
    · rw [hlen2]
      unfold maxLen at hm
      omega
    · rw [List.getElem?_map] at hj
      obtain ⟨i, hi, rfl⟩ := Option.map_eq_some_iff.1 hj
      rw [List.getElem?_range (by have := (List.getElem?_eq_some_iff.1 hi).1; simpa using this)] at hi
      obtain rfl := Option.some.inj hi
      have hlt : j < len := by
        rcases Nat.lt_or_ge j len with h | h
        · exact h
        · rw [List.getElem?_eq_none (by simpa using h)] at hj; cases hj
      obtain ⟨c, h1, h2, h3, _⟩ := hf j hlt
      exact ⟨c, h1, h2, h3⟩
    · show _ ≤ Rows.uptoBulk (DataW.slice _ _)
      rw [Rows.uptoBulk]
      omega⟩
def opBound (x : S61) (n : Nat) : Prop := x.f1.size + 1 ≤ n ∧ (Lit.int .i64 x.f2).wf = true
instance : Inhabited S61 := ⟨z61⟩
theorem list3 {α : Type} {l : List α} (h : l.length = 3) : ∃ a b c, l = [a, b, c] := by
  match l, h with
  | [a, b, c], _ => exact ⟨a, b, c, rfl⟩
theorem opn_61 : Opn 61 k61 opBound := ⟨by
  intro H enc w base spare held fuel cs x hx
  obtain ⟨y0, y1, y2, n, rfl, hl, h0, h1, h2⟩ := trod_struct3 Tryd.underlying61 hx
  have c61 : Tryd.prog.cellsOf 61 = 3 := by kernel_rfl
  have c4 : Tryd.prog.cellsOf 4 = 1 := by kernel_rfl
  have c9 : Tryd.prog.cellsOf 9 = 1 := by kernel_rfl
  have c3 : Tryd.prog.cellsOf 3 = 1 := by kernel_rfl
  rw [c61] at hl
  obtain ⟨v0, v1, v2, rfl⟩ := list3 hl
  simp only [c4, c9, c3, List.drop_zero, List.drop_succ_cons, List.take_succ_cons, List.take_zero] at h0 h1 h2
  obtain ⟨a, ha, _⟩ := (opn_bool Tryd.underlying4).go enc w base spare held n _ _ h0
  obtain ⟨b, hb, hbG⟩ := (opn_string Tryd.underlying9).go enc w base spare held n _ _ h1
  obtain ⟨c, hc, hcG⟩ := (opn_int Tryd.underlying3).go enc w base spare held n _ _ h2
  have ha' : [v0] = [Value.bool a] := ha
  have hb' : [v1] = [Value.string b] := hb
  have hc' : [v2] = [Value.int .i64 c] := hc
  injection ha' with ha' _
  injection hb' with hb' _
  injection hc' with hc' _
  subst ha' hb' hc'
  refine ⟨⟨a, b, c⟩, k61_mk w ⟨a, b, c⟩, ?_, hcG⟩
  show b.size + 1 ≤ Rows.uptoBulk (DataW.agg [y0.1, y1.1, y2.1])
  simp only [Rows.uptoBulk, Rows.uptoBulkAll]
  omega⟩
theorem opn_51 : Opn 51 (Kd.slice 61 k61) (fun l n => ∃ k, AllG opBound l k ∧ k + 1 ≤ n) := opn_slice Tryd.underlying51 (by kernel_rfl) opn_61
theorem opn_49 : Opn 49 (Kd.slice 51 (Kd.slice 61 k61)) (fun l n => ∃ k, AllG (fun l n => ∃ k, AllG opBound l k ∧ k + 1 ≤ n) l k ∧ k + 1 ≤ n) := opn_slice Tryd.underlying49 (by kernel_rfl) opn_51

set_option maxRecDepth 100000 in
/-- A parameter that is a slice, opened. -/
theorem open_row {α H : Type} {enc : TypeId × Value → H} {W : World} {base b0 : Nat} {spare : Nat → Bool} {held : Bool} {r : Reach} {t e : TypeId} {v : Value} {dd : DataW H} {p : List MemPlace} {d : Kd α} {G : List α → Nat → Prop} (hu : Tryd.prog.underlying t = some (.slice e)) (ho : Opn t (Kd.slice e d) G)
    (hv : Value.okWide Tryd.prog W r b0 t v) (h : DataW.Trod enc Tryd.prog W base spare held t v dd p) : ∃ (A : Option Addr) (l : List α) (c : Nat), v = .slice A l.length c ∧ l.length ≤ c ∧ d.C W A l.length l ∧ G l (Rows.uptoBulk dd) := by
  obtain ⟨a, len, cap, rfl⟩ := okWide_slice hu hv
  obtain ⟨fuel, hf⟩ := h
  have hf' : DataW.trod enc Tryd.prog W base spare held fuel t [.slice a len cap] = some (dd, p) := hf
  have key := ho.go enc W base spare held fuel _ _ hf'
  obtain ⟨l, hK, hG⟩ := key
  have hK' : ∃ A c, [Value.slice a len cap] = [Value.slice A l.length c] ∧ l.length ≤ c ∧ d.C W A l.length l := hK
  obtain ⟨A, c, e1, hl, hC⟩ := hK'
  injection e1 with e1 _
  injection e1 with e1 e2 e3
  subst e1 e2 e3
  exact ⟨_, l, _, rfl, hl, hC, hG⟩
set_option maxRecDepth 100000 in
/-- A parameter that is a struct, opened. -/
theorem open_agg {α H : Type} {enc : TypeId × Value → H} {W : World} {base b0 : Nat} {spare : Nat → Bool} {held : Bool} {r : Reach} {t : TypeId} {fs : Array Field} {v : Value} {dd : DataW H} {p : List MemPlace} {d : Kd α} {G : α → Nat → Prop} (hu : Tryd.prog.underlying t = some (.struct fs)) (ho : Opn t d G)
    (hv : Value.okWide Tryd.prog W r b0 t v) (h : DataW.Trod enc Tryd.prog W base spare held t v dd p) : ∃ (a : α) (cs : List Value), v = .agg cs.toArray ∧ d.K W a cs ∧ G a (Rows.uptoBulk dd) := by
  obtain ⟨cs, rfl, _⟩ := okWide_struct hu hv
  obtain ⟨fuel, hf⟩ := h
  have hf' : DataW.trod enc Tryd.prog W base spare held fuel t cs.toList = some (dd, p) := hf
  obtain ⟨a, hK, hG⟩ := ho.go enc W base spare held fuel _ _ hf'
  exact ⟨a, cs.toList, by rw [Array.toArray_toList], hK, hG⟩
theorem laidOutD : laidOutB Tryd.prog = true := by kernel_rfl

theorem allG_mono {α : Type} {G : α → Nat → Prop} {l : List α} {n k : Nat} (h : AllG G l n) (hk : n ≤ k) : AllG G l k := by
  cases h with
  | nil _ => exact .nil _
  | cons h1 h2 h3 => exact .cons h1 h2 (Nat.le_trans h3 hk)
theorem allG_len {α : Type} {G : α → Nat → Prop} (hG : ∀ a n, G a n → 1 ≤ n) {l : List α} {n : Nat} (h : AllG G l n) : l.length ≤ n := by
  induction h with
  | nil _ => exact Nat.zero_le _
  | cons h1 _ h3 ih => have := hG _ _ h1; rw [List.length_cons]; omega
theorem allG_mem {α : Type} {G : α → Nat → Prop} {l : List α} {n : Nat} (h : AllG G l n) : ∀ a ∈ l, ∃ m, m ≤ n ∧ G a m := by
  induction h with
  | nil _ => intro a ha; cases ha
  | @cons a l m n k h1 _ h3 ih =>
    intro x hx
    rcases List.mem_cons.1 hx with rfl | hx
    · exact ⟨m, by omega, h1⟩
    · obtain ⟨q, hq, hg⟩ := ih x hx
      exact ⟨q, by omega, hg⟩
theorem allG_flat {α : Type} {G : α → Nat → Prop} (hG : ∀ a n, G a n → 1 ≤ n) {h : List (List α)} {n : Nat} (H : AllG (fun l n => ∃ k, AllG G l k ∧ k + 1 ≤ n) h n) : h.length ≤ n ∧ h.flatten.length ≤ n ∧ ∀ x ∈ h.flatten, ∃ m, m ≤ n ∧ G x m := by
  induction H with
  | nil _ => exact ⟨Nat.zero_le _, Nat.zero_le _, fun x hx => by cases hx⟩
  | @cons a l m n k h1 _ h3 ih =>
    obtain ⟨q, hq, hqm⟩ := h1
    obtain ⟨i1, i2, i3⟩ := ih
    have hl := allG_len hG hq
    refine ⟨by rw [List.length_cons]; omega, by rw [List.flatten_cons, List.length_append]; omega, fun x hx => ?_⟩
    rw [List.flatten_cons] at hx
    rcases List.mem_append.1 hx with hx | hx
    · obtain ⟨z, hz, hg⟩ := allG_mem hq x hx
      exact ⟨z, by omega, hg⟩
    · obtain ⟨z, hz, hg⟩ := i3 x hx
      exact ⟨z, by omega, hg⟩
theorem wf_range {z : Int} (h : (Lit.int .i64 z).wf = true) : -9223372036854775808 ≤ z ∧ z ≤ 9223372036854775807 := by
  simp only [Lit.wf, Bool.and_eq_true, decide_eq_true_eq] at h
  exact h
theorem hist_bounds {h : List (List S61)} {n : Nat} (H : ∃ k, AllG (fun l n => ∃ k, AllG opBound l k ∧ k + 1 ≤ n) h k ∧ k + 1 ≤ n) : h.length ≤ n ∧ h.flatten.length ≤ n ∧ ∀ x ∈ h.flatten, x.f1.size ≤ n ∧ -9223372036854775808 ≤ x.f2 ∧ x.f2 ≤ 9223372036854775807 := by
  obtain ⟨k, hk, hkn⟩ := H
  obtain ⟨h1, h2, h3⟩ := allG_flat (fun a n hg => by have := hg.1; omega) hk
  refine ⟨by omega, by omega, fun x hx => ?_⟩
  obtain ⟨m, hm, hg⟩ := h3 x hx
  have := wf_range hg.2
  exact ⟨by have := hg.1; omega, this.1, this.2⟩
end Go.Proofs.YtcabnjinfkjnjaaDoor.XH
