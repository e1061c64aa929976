/- THE PLAIN LAWS OF READ, seventh part: ReadJoins answers true. -/
import Derived.Test.YtcabnjinfkjnjaaDoorPureReadF
namespace Go.Proofs.YtcabnjinfkjnjaaDoor.XH
open Go.RowKit Go.Proofs.YtcabnjinfkjnjaaDoorW.PrintWords Go.Proofs.YtcabnjinfkjnjaaDoorW.PrintLast Go.Proofs.YtcabnjinfkjnjaaDoor.X
set_option linter.unusedVariables false

theorem tail_app {d : UInt8} (q' T : List UInt8) : Tail d (d :: q' ++ T) := .inr ⟨q' ++ T, rfl⟩
theorem runs_join {out l n r R} (hR : Runs out l n r R) : ∀ (h : List (List S61)) (m : Nat), R = .ok h m → ∀ T R', Runs h [] m T R' → Runs out l n (r ++ T) R' := by
  induction hR with
  | done out n => intro h m e T R' hT; cases e; exact hT
  | cut => intro h m e; cases e
  | line out l n r R h ih => intro hh m e T R' hT; exact .line out l n (r ++ T) R' (ih hh m e T R' hT)
  | bad => intro h m e; cases e
  | op0 out n c r x q R h1 ho h ih =>
    intro hh m e T R' hT
    obtain ⟨d, q', rfl⟩ := ok_ne h (by simp) e
    obtain ⟨hn, a, pre, hl, ha, hx, ht⟩ := opL_cut ho
    obtain ⟨rfl, hr⟩ := List.cons.inj hl
    have := ht (d :: q' ++ T) (tail_app q' T) n hn
    rw [hr, show c :: (pre ++ d :: q') ++ T = c :: (pre ++ (d :: q' ++ T)) by simp]
    exact .op0 out n c _ x _ R' h1 this (ih hh m e T R' hT)
  | no0 => intro h m e; cases e
  | op1 out l n r x q R hl ho h ih =>
    intro hh m e T R' hT
    obtain ⟨d, q', rfl⟩ := ok_ne h (by simp) e
    obtain ⟨hn, a, pre, hr, ha, hx, ht⟩ := opL_cut ho
    have := ht (d :: q' ++ T) (tail_app q' T) n hn
    rw [hr, show 32 :: a :: (pre ++ d :: q') ++ T = 32 :: a :: (pre ++ (d :: q' ++ T)) by simp]
    exact .op1 out l n _ x _ R' hl this (ih hh m e T R' hT)
  | no1 => intro h m e; cases e
def shift (A : List (List S61)) (m : Nat) : TRes → TRes
  | .ok h k => .ok (A ++ h) (k + m)
  | .no q e => .no q e
theorem opL_free {n : Nat} (hn : n ≠ 4096) (l : List UInt8) : opL n l = oneL l := if_neg (fun h => hn h.1)
theorem runs_shift {out l n r R} (hR : Runs out l n r R) : ∀ (A : List (List S61)) (m : Nat), n + m + r.length < 4096 → Runs (A ++ out) l (n + m) r (shift A m R) := by
  induction hR with
  | done out n => intro A m h; exact .done _ _
  | cut out l n hl => intro A m h; exact .cut _ _ _ hl
  | line out l n r R h ih =>
    intro A m hm
    simp only [List.length_cons] at hm
    have := ih A m (by omega)
    rw [← List.append_assoc] at this
    exact .line _ _ _ _ _ this
  | bad out l n c r hl h1 h2 => intro A m hm; exact .bad _ _ _ _ _ hl h1 h2
  | op0 out n c r x q R h1 ho h ih =>
    intro A m hm
    have hq := opL_len ho
    have := ih A m (by omega)
    rw [opL_free (by omega)] at ho
    rw [show n + 1 + m = n + m + 1 from by omega] at this
    exact .op0 _ _ _ _ x q _ h1 (by rw [opL_free (by omega)]; exact ho) this
  | no0 out n c r q e h1 ho =>
    intro A m hm
    rw [opL_free (by omega)] at ho
    exact .no0 _ _ _ _ _ _ h1 (by rw [opL_free (by omega)]; exact ho)
  | op1 out l n r x q R hl ho h ih =>
    intro A m hm
    have hq := opL_len ho
    simp only [List.length_cons] at hm
    have := ih A m (by omega)
    rw [opL_free (by omega)] at ho
    rw [show n + 1 + m = n + m + 1 from by omega] at this
    exact .op1 _ _ _ _ x q _ hl (by rw [opL_free (by omega)]; exact ho) this
  | no1 out l n r q e hl ho =>
    intro A m hm
    simp only [List.length_cons] at hm
    rw [opL_free (by omega)] at ho
    exact .no1 _ _ _ _ _ _ hl (by rw [opL_free (by omega)]; exact ho)
theorem runs_ops {out l n r R} (hR : Runs out l n r R) : ∀ (h : List (List S61)) (m : Nat), R = .ok h m → m ≤ n + r.length := by
  induction hR with
  | done out n => intro h m e; cases e; omega
  | cut => intro h m e; cases e
  | line out l n r R h ih => intro hh m e; have := ih hh m e; simp only [List.length_cons]; omega
  | bad => intro h m e; cases e
  | op0 out n c r x q R h1 ho h ih => intro hh m e; have := ih hh m e; have := opL_len ho; omega
  | no0 => intro h m e; cases e
  | op1 out l n r x q R hl ho h ih => intro hh m e; have := ih hh m e; have := opL_len ho; simp only [List.length_cons]; omega
  | no1 => intro h m e; cases e
theorem data_app (s t : ByteArray) : (s ++ t).data.toList = s.data.toList ++ t.data.toList := by
  rw [ByteArray.data_append, Array.toList_append]
theorem readJoins_pure : eyewitnesslaw07_ReadJoins.Pure := by
  intro s t _ _
  obtain ⟨k0, h0⟩ := awake_true
  have hbig : ∀ k, k0 ≤ k → eyewitnesslaw07_ReadJoins.j0 (k + 1) s t true = some true := by
    intro k hk
    rw [eyewitnesslaw07_ReadJoins.j0, if_pos rfl, up_le (fun k => eyewitnesslaw07_awake.mono k) h0 _ hk]
    rfl
  by_cases hs : s.size ≤ 1000
  · by_cases ht : t.size ≤ 1000
    · have hl : s.data.toList.length = s.size := (size_list s).symm
      have hlt : t.data.toList.length = t.size := (size_list t).symm
      have hst : (s ++ t).size = s.size + t.size := ByteArray.size_append
      obtain ⟨R, hR⟩ := runs_ex (s.data.toList.length + 1) s.data.toList [] [] 0 (by omega)
      obtain ⟨R2, hR2⟩ := runs_ex (t.data.toList.length + 1) t.data.toList [] [] 0 (by omega)
      obtain ⟨k1, h1⟩ := read_text s (by omega) hR
      obtain ⟨k2, h2⟩ := read_text t (by omega) hR2
      have hR3 : ∃ R3, Runs [] [] 0 (s ++ t).data.toList R3 ∧ ∀ h m, R = .ok h m → R3 = shift h m R2 := by
        rw [data_app]
        cases R with
        | no q e =>
          obtain ⟨R3, h3⟩ := runs_ex ((s.data.toList ++ t.data.toList).length + 1) (s.data.toList ++ t.data.toList) [] [] 0 (by omega)
          exact ⟨R3, h3, fun h m e => by cases e⟩
        | ok h m =>
          have hm := runs_ops hR h m rfl
          have := runs_shift hR2 h m (by omega)
          rw [List.append_nil, Nat.zero_add] at this
          exact ⟨_, runs_join hR h m rfl _ _ this, fun h' m' e => by cases e; rfl⟩
      obtain ⟨R3, hR3, hsh⟩ := hR3
      obtain ⟨k3, h3⟩ := read_text (s ++ t) (by omega) hR3
      have g0 := fun k hk => up_le (fun k => eyewitnesslaw07_awake.mono k) h0 k hk
      have g1 := fun k hk => up_le (fun k => read_Text.mono s k) h1 k hk
      have g2 := fun k hk => up_le (fun k => read_Text.mono t k) h2 k hk
      have g3 := fun k hk => up_le (fun k => read_Text.mono (s ++ t) k) h3 k hk
      have hstart : ∀ k, eyewitnesslaw07_ReadJoins.f k s t = eyewitnesslaw07_ReadJoins.j0 k s t false := by
        intro k
        unfold eyewitnesslaw07_ReadJoins.f
        rw [if_neg (by omega), decide_eq_false (by omega)]
      have q1 : s.size + t.size ≤ 9223372036854775807 := by omega
      cases R with
      | no q e =>
        have hno := runs_no hR q e rfl
        have hne : ¬ e = 0 := by omega
        refine ⟨k0 + k1 + k2 + k3 + 1, ?_⟩
        rw [hstart, eyewitnesslaw07_ReadJoins.j0, if_neg Bool.false_ne_true, g1 _ (by omega), Option.bind_some, g2 _ (by omega), Option.bind_some, if_pos q1, g3 _ (by omega), Option.bind_some]
        refine (if_neg (show ¬ e = 0 from hne)).trans ?_
        rw [g0 _ (by omega)]
        rfl
      | ok a m =>
        obtain rfl := hsh a m rfl
        cases R2 with
        | no q e =>
          have hno := runs_no hR2 q e rfl
          have hne : ¬ e = 0 := by omega
          refine ⟨k0 + k1 + k2 + k3 + 1, ?_⟩
          rw [hstart, eyewitnesslaw07_ReadJoins.j0, if_neg Bool.false_ne_true, g1 _ (by omega), Option.bind_some, g2 _ (by omega), Option.bind_some, if_pos q1, g3 _ (by omega), Option.bind_some]
          refine (if_pos (show (0 : Int) = 0 from rfl)).trans ?_
          refine (if_neg (show ¬ e = 0 from hne)).trans ?_
          rw [g0 _ (by omega), Option.bind_some, if_pos rfl]
          refine (if_pos (show e = e from rfl)).trans ?_
          show some (((((s ++ t).size - q.length : Nat) : Int)) == wrap64 ((s.size : Int) + ((t.size - q.length : Nat) : Int))) = some true
          rw [w64 (by omega) (by omega), hst]
          congr 1
          rw [beq_iff_eq]
          omega
        | ok b m2 =>
          have hsz := runs_size hR3 2000 (a ++ b) (m2 + m) rfl (fun x hx => by cases hx) (by rw [data_app, List.length_append]; simp only [List.length_nil]; omega)
          have hab := hsz.2
          rw [data_app, List.length_append, List.length_append] at hab
          simp only [List.length_nil] at hab
          obtain ⟨k4, h4⟩ := same_refl (a ++ b) 2000 (by omega) (by rw [List.length_append]; omega) hsz.1
          have g4 := fun k hk => up_le (fun k => eyewitnessref06_Same.mono (a ++ b) (a ++ b) k) h4 k hk
          refine ⟨k0 + k1 + k2 + k3 + k4 + 1, ?_⟩
          rw [hstart, eyewitnesslaw07_ReadJoins.j0, if_neg Bool.false_ne_true, g1 _ (by omega), Option.bind_some, g2 _ (by omega), Option.bind_some, if_pos q1, g3 _ (by omega), Option.bind_some]
          refine (if_pos (show (0 : Int) = 0 from rfl)).trans ?_
          refine (if_pos (show (0 : Int) = 0 from rfl)).trans ?_
          rw [g0 _ (by omega), Option.bind_some, if_pos rfl]
          refine (if_pos (show (0 : Int) = 0 from rfl)).trans ?_
          show (if ([] : List (List S61)).length + a.length < 5864062014805 then (if ([] ++ a).length + b.length < 5864062014805 then (eyewitnessref06_Same.f (k0 + k1 + k2 + k3 + k4) (a ++ b) (([] ++ a) ++ b)).bind fun t417 => some t417 else none) else none) = some true
          rw [List.nil_append, if_pos (by simp only [List.length_nil]; omega), if_pos (by omega), g4 _ (by omega)]
          rfl
    · refine ⟨k0 + 1, ?_⟩
      unfold eyewitnesslaw07_ReadJoins.f
      rw [if_neg (by omega), decide_eq_true (by omega)]
      exact hbig k0 (Nat.le_refl _)
  · refine ⟨k0 + 1, ?_⟩
    unfold eyewitnesslaw07_ReadJoins.f
    rw [if_pos (by omega)]
    exact hbig k0 (Nat.le_refl _)
end Go.Proofs.YtcabnjinfkjnjaaDoor.XH
