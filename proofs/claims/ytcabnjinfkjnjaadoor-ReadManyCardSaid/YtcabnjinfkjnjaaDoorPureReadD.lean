/- THE PLAIN LAWS OF READ, fourth part: what all its laws need. -/
import Derived.Test.YtcabnjinfkjnjaaDoorPureReadB
import Derived.Test.YtcabnjinfkjnjaaDoorXHx10
import Derived.Test.YtcabnjinfkjnjaaDoorXHx11
namespace Go.Proofs.YtcabnjinfkjnjaaDoor.XH
open Go.RowKit Go.Proofs.YtcabnjinfkjnjaaDoorW.PrintWords Go.Proofs.YtcabnjinfkjnjaaDoorW.PrintLast Go.Proofs.YtcabnjinfkjnjaaDoor.X
set_option linter.unusedVariables false

theorem up_le {α : Type} {f : Nat → Option α} (m : ∀ k, LeO (f k) (f (k + 1))) {k : Nat} {r : α} (h : f k = some r) (k' : Nat) (hk : k ≤ k') : f k' = some r := by
  obtain ⟨d, rfl⟩ : ∃ d, k' = k + d := ⟨k' - k, by omega⟩
  clear hk
  induction d with
  | zero => exact h
  | succ d ih => exact m _ _ ih
theorem rd_L4_nat (a : List (List S61)) (i : Nat) (h : i < a.length) : rd_L4 a (i : Int) = a[i] := by
  unfold rd_L4
  rw [Int.toNat_natCast, List.getD_eq_getElem?_getD, List.getElem?_eq_getElem h]
  rfl
theorem same_l1 (a : List (List S61)) (B : Nat) (hB : B ≤ 4000000) (ha : a.length ≤ B) (hr : ∀ x ∈ a, x.length ≤ B) (i : Nat) (hi : i < a.length) (hn : ∃ k, eyewitnessref06_Same.l0 k a a ((i + 1 : Nat) : Int) = some true) :
    ∀ (d j : Nat), d = (a[i]).length - j → j ≤ (a[i]).length → ∃ k, eyewitnessref06_Same.l1 k a a (i : Int) (j : Int) = some true := by
  have hx := hr _ (List.getElem_mem hi)
  intro d
  induction d with
  | zero =>
    intro j hd hj
    obtain ⟨k, hk⟩ := hn
    refine ⟨k + 1, ?_⟩
    rw [eyewitnessref06_Same.l1, rd_L4_nat a i hi, if_pos (by omega), if_pos (by omega), if_neg (by omega), succ_val i (by omega)]
    exact hk
  | succ d ih =>
    intro j hd hj
    obtain ⟨k, hk⟩ := ih (j + 1) (by omega) (by omega)
    refine ⟨k + 1, ?_⟩
    rw [eyewitnessref06_Same.l1, rd_L4_nat a i hi, if_pos (by omega), if_pos (by omega), if_pos (by omega), if_pos (by omega), if_pos (by omega), if_pos (by omega), succ_val j (by omega)]
    rw [if_neg (by simp)]
    exact hk
theorem same_l0 (a : List (List S61)) (B : Nat) (hB : B ≤ 4000000) (ha : a.length ≤ B) (hr : ∀ x ∈ a, x.length ≤ B) : ∀ (d i : Nat), d = a.length - i → i ≤ a.length → ∃ k, eyewitnessref06_Same.l0 k a a (i : Int) = some true := by
  intro d
  induction d with
  | zero =>
    intro i hd hi
    refine ⟨1, ?_⟩
    rw [eyewitnessref06_Same.l0, if_neg (by omega)]
  | succ d ih =>
    intro i hd hi
    have hlt : i < a.length := by omega
    obtain ⟨k, hk⟩ := same_l1 a B hB ha hr i hlt (ih (i + 1) (by omega) (by omega)) _ 0 rfl (Nat.zero_le _)
    refine ⟨k + 1, ?_⟩
    rw [eyewitnessref06_Same.l0, if_pos (by omega), if_pos (by omega), if_pos (by omega), if_pos rfl]
    exact hk
theorem same_refl (a : List (List S61)) (B : Nat) (hB : B ≤ 4000000) (ha : a.length ≤ B) (hr : ∀ x ∈ a, x.length ≤ B) : ∃ k, eyewitnessref06_Same.f k a a = some true := by
  obtain ⟨k, hk⟩ := same_l0 a B hB ha hr _ 0 rfl (Nat.zero_le _)
  refine ⟨k, ?_⟩
  unfold eyewitnessref06_Same.f
  rw [if_pos rfl]
  exact hk
/-- What a text that is read can be: its lines' number, its lines' sizes, the operations' number. -/
theorem runs_size {out l n r R} (hR : Runs out l n r R) : ∀ (B : Nat) (h : List (List S61)) (m : Nat), R = .ok h m → (∀ x ∈ out, x.length ≤ B) → l.length + r.length ≤ B → (∀ x ∈ h, x.length ≤ B) ∧ h.length ≤ out.length + r.length := by
  induction hR with
  | done out n => intro B h m e h1 h2; cases e; exact ⟨h1, by omega⟩
  | cut => intro B h m e; cases e
  | line out l n r R h ih =>
    intro B h m e h1 h2
    simp only [List.length_cons] at h2 ⊢
    have := ih B h m e (fun x hx => by
      rcases List.mem_append.1 hx with hx | hx
      · exact h1 x hx
      · rw [List.mem_singleton] at hx; rw [hx]; omega) (by simp only [List.length_nil]; omega)
    refine ⟨this.1, ?_⟩
    have h3 := this.2
    simp only [List.length_append, List.length_cons, List.length_nil] at h3
    omega
  | bad => intro B h m e; cases e
  | op0 out n c r x q R h1 ho h ih =>
    intro B h m e h2 h3
    have hq := opL_len ho
    simp only [List.length_cons] at h3 hq ⊢
    have := ih B h m e h2 (by simp only [List.length_cons, List.length_nil]; omega)
    exact ⟨this.1, by omega⟩
  | no0 => intro B h m e; cases e
  | op1 out l n r x q R hl ho h ih =>
    intro B h m e h2 h3
    have hq := opL_len ho
    simp only [List.length_cons] at h3 hq ⊢
    have := ih B h m e h2 (by simp only [List.length_append, List.length_cons, List.length_nil]; omega)
    exact ⟨this.1, by omega⟩
  | no1 => intro B h m e; cases e
theorem read_text (s : ByteArray) (hs : s.size ≤ 1000000) {R} (hR : Runs [] [] 0 s.data.toList R) : ∃ k, read_Text.f k s = some (ansT s R) := by
  refine ⟨2 * s.data.toList.length + 40, ?_⟩
  have hl : s.data.toList.length = s.size := (size_list s).symm
  exact (text_runs s hs hR 0 (Suf.start s) (by simp only [List.length_nil]; omega) (by simp only [List.length_nil]; omega) (by omega)).1 rfl _ (Nat.le_refl _)
theorem awake_true : ∃ k, eyewitnesslaw07_awake.f k = some true := ⟨100, by decide +kernel⟩
end Go.Proofs.YtcabnjinfkjnjaaDoor.XH
