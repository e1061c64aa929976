/- THE PLAIN LAWS OF READ: ReadMany answers true. -/
import Derived.Test.YtcabnjinfkjnjaaDoorPureReadF
import Derived.Test.YtcabnjinfkjnjaaDoorXHx15
namespace Go.Proofs.YtcabnjinfkjnjaaDoor.XH
open Go.RowKit Go.Proofs.YtcabnjinfkjnjaaDoorW.PrintWords Go.Proofs.YtcabnjinfkjnjaaDoorW.PrintLast Go.Proofs.YtcabnjinfkjnjaaDoor.X
set_option linter.unusedVariables false

def opX : S61 := ⟨false, mkB [120], 0⟩
def repL (sep : UInt8) : Nat → List UInt8
  | 0 => []
  | n + 1 => 114 :: 58 :: 120 :: 61 :: 48 :: sep :: repL sep n
theorem one_10 (t : List UInt8) : oneL (114 :: 58 :: 120 :: 61 :: 48 :: 10 :: t) = .ok opX (10 :: t) := rfl
theorem one_32 (t : List UInt8) : oneL (114 :: 58 :: 120 :: 61 :: 48 :: 32 :: t) = .ok opX (32 :: t) := rfl
theorem rep_add (sep : UInt8) (a b : Nat) : repL sep (a + b) = repL sep a ++ repL sep b := by
  induction a with
  | zero => rw [Nat.zero_add]; rfl
  | succ a ih => rw [show a + 1 + b = (a + b) + 1 from by omega, repL, repL, ih]; rfl
theorem rep_len (sep : UInt8) (a : Nat) : (repL sep a).length = 6 * a := by
  induction a with
  | zero => rfl
  | succ a ih => rw [repL]; simp only [List.length_cons, ih]; omega
/-- The text of d operations. -/
def txt (sep : UInt8) (d e : Nat) : List UInt8 := (repL sep (d + e)).take (6 * d - 1) ++ [10]
theorem opL_free {n : Nat} (hn : n ≠ 4096) (l : List UInt8) : opL n l = oneL l := if_neg (fun h => hn h.1)
theorem txt_one (sep : UInt8) (e : Nat) : txt sep 1 e = 114 :: 58 :: 120 :: 61 :: 48 :: [10] := by
  unfold txt
  rw [show 1 + e = e + 1 from by omega, repL]
  rfl
theorem txt_succ (sep : UInt8) (d e : Nat) : txt sep (d + 2) e = 114 :: 58 :: 120 :: 61 :: 48 :: sep :: txt sep (d + 1) e := by
  unfold txt
  rw [show d + 2 + e = (d + 1 + e) + 1 from by omega, repL, show 6 * (d + 2) - 1 = (6 * (d + 1) - 1) + 1 + 1 + 1 + 1 + 1 + 1 from by omega]
  simp only [List.take_succ_cons, List.cons_append]
theorem txt_len (sep : UInt8) (d e : Nat) : (txt sep (d + 1) e).length = 6 * (d + 1) := by
  induction d with
  | zero => rw [txt_one]; rfl
  | succ d ih => rw [txt_succ]; simp only [List.length_cons, ih]; omega
theorem txt_head (sep : UInt8) (d e : Nat) : ∃ t, txt sep (d + 1) e = 114 :: t := by
  cases d with
  | zero => exact ⟨_, txt_one sep e⟩
  | succ d => exact ⟨_, txt_succ sep d e⟩
theorem op_large {t : List UInt8} : opL 4096 (114 :: t) = .no (114 :: t) 3 := if_pos ⟨rfl, .inr rfl⟩
theorem runs_spaces (e : Nat) : ∀ (d n : Nat) (out : List (List S61)) (l : List S61), l ≠ [] → n ≤ 4096 →
    ∃ R, Runs out l n (32 :: txt 32 (d + 1) e) R ∧ (n + (d + 1) ≤ 4096 → ∃ h, R = .ok h (n + (d + 1))) ∧ (4096 < n + (d + 1) → ∃ q, R = .no q 3 ∧ q.length = 6 * (n + (d + 1) - 4096)) := by
  intro d
  induction d with
  | zero =>
    intro n out l hl hn
    by_cases h4 : n = 4096
    · subst h4
      refine ⟨.no (txt 32 1 e) 3, ?_, fun h => by omega, fun _ => ⟨_, rfl, by rw [txt_len]⟩⟩
      refine .no1 out l 4096 _ _ 3 hl ?_
      rw [txt_one]; exact op_large
    · refine ⟨.ok (out ++ [l ++ [opX]]) (n + 1), ?_, fun _ => ⟨_, rfl⟩, fun h => by omega⟩
      rw [txt_one]
      refine .op1 out l n _ opX [10] _ hl ?_ (.line _ _ _ _ _ (.done _ _))
      rw [opL_free h4]; exact one_10 []
  | succ d ih =>
    intro n out l hl hn
    by_cases h4 : n = 4096
    · subst h4
      refine ⟨.no (txt 32 (d + 1 + 1) e) 3, ?_, fun h => by omega, fun _ => ⟨_, rfl, by rw [txt_len]; omega⟩⟩
      refine .no1 out l 4096 _ _ 3 hl ?_
      rw [txt_succ]; exact op_large
    · obtain ⟨R, hR, h1, h2⟩ := ih (n + 1) out (l ++ [opX]) (by simp) (by omega)
      rw [show n + 1 + (d + 1) = n + (d + 1 + 1) from by omega] at h1 h2
      refine ⟨R, ?_, h1, h2⟩
      rw [txt_succ]
      refine .op1 out l n _ opX _ _ hl ?_ hR
      rw [opL_free h4]; exact one_32 _
theorem runs_lines (e : Nat) : ∀ (d n : Nat) (out : List (List S61)), n ≤ 4096 →
    ∃ R, Runs out [] n (txt 10 (d + 1) e) R ∧ (n + (d + 1) ≤ 4096 → ∃ h, R = .ok h (n + (d + 1))) ∧ (4096 < n + (d + 1) → ∃ q, R = .no q 3 ∧ q.length = 6 * (n + (d + 1) - 4096)) := by
  intro d
  induction d with
  | zero =>
    intro n out hn
    by_cases h4 : n = 4096
    · subst h4
      refine ⟨.no (txt 10 1 e) 3, ?_, fun h => by omega, fun _ => ⟨_, rfl, by rw [txt_len]⟩⟩
      rw [txt_one]
      exact .no0 out 4096 _ _ _ 3 (by decide) op_large
    · refine ⟨.ok (out ++ [[opX]]) (n + 1), ?_, fun _ => ⟨_, rfl⟩, fun h => by omega⟩
      rw [txt_one]
      refine .op0 out n _ _ opX [10] _ (by decide) ?_ (.line _ _ _ _ _ (.done _ _))
      rw [opL_free h4]; exact one_10 []
  | succ d ih =>
    intro n out hn
    by_cases h4 : n = 4096
    · subst h4
      refine ⟨.no (txt 10 (d + 1 + 1) e) 3, ?_, fun h => by omega, fun _ => ⟨_, rfl, by rw [txt_len]; omega⟩⟩
      rw [txt_succ]
      exact .no0 out 4096 _ _ _ 3 (by decide) op_large
    · obtain ⟨R, hR, h1, h2⟩ := ih (n + 1) (out ++ [[opX]]) (by omega)
      rw [show n + 1 + (d + 1) = n + (d + 1 + 1) from by omega] at h1 h2
      refine ⟨R, ?_, h1, h2⟩
      rw [txt_succ]
      refine .op0 out n _ _ opX _ _ (by decide) ?_ (.line _ _ _ _ _ hR)
      rw [opL_free h4]; exact one_10 _
theorem runs_text (sep : UInt8) (hsep : sep = 10 ∨ sep = 32) (d e : Nat) :
    ∃ R, Runs [] [] 0 (txt sep (d + 2) e) R ∧ (d + 2 ≤ 4096 → ∃ h, R = .ok h (d + 2)) ∧ (4096 < d + 2 → ∃ q, R = .no q 3 ∧ q.length = 6 * (d + 2 - 4096)) := by
  rcases hsep with rfl | rfl
  · have := runs_lines e (d + 1) 0 [] (by omega)
    rw [Nat.zero_add] at this
    exact this
  · obtain ⟨R, hR, h1, h2⟩ := runs_spaces e d 1 [] [opX] (by simp) (by omega)
    rw [show 1 + (d + 1) = d + 2 from by omega] at h1 h2
    refine ⟨R, ?_, h1, h2⟩
    rw [txt_succ]
    refine .op0 [] 0 _ _ opX _ _ (by decide) ?_ hR
    rw [opL_free (by omega)]; exact one_32 _
theorem data_app (s t : ByteArray) : (s ++ t).data.toList = s.data.toList ++ t.data.toList := by
  rw [ByteArray.data_append, Array.toList_append]
theorem at_place {a b D : Nat} (h1 : a = 6 * (D + 2)) (h2 : b = 6 * (D + 2 - 4096)) (h3 : 4096 < D + 2) : ((a - b : Nat) : Int) = 24576 := by omega
theorem many_l0 (x5 : Int) (sep : UInt8) (hsep : sep = 10 ∨ sep = 32) (K : Nat) (hK : x5 = (K : Int)) (h2 : 2 ≤ K) (h4 : K ≤ 4600) :
    ∀ (d i : Nat) (x7 : ByteArray), d = 512 - i → i ≤ 512 → x7.data.toList = repL sep i → ∃ k, eyewitnesslaw07_ReadMany.l0 k x5 ⟨#[sep]⟩ x7 (i : Int) = some true := by
  intro d
  induction d with
  | zero =>
    intro i x7 hd hi hx
    have hi : i = 512 := by omega
    subst hi
    have hlen : x7.size = 3072 := by rw [size_list, hx, rep_len]
    obtain ⟨all, hall⟩ : ∃ a, a = ((((((((x7 ++ x7) ++ x7) ++ x7) ++ x7) ++ x7) ++ x7) ++ x7) ++ x7) := ⟨_, rfl⟩
    have hdata : all.data.toList = repL sep 4608 := by
      rw [hall]
      simp only [data_app, hx]
      simp only [← rep_add]
    have hallsz : all.size = 27648 := by rw [size_list, hdata, rep_len]
    obtain ⟨D, rfl⟩ : ∃ D, K = D + 2 := ⟨K - 2, by omega⟩
    have hcutd : (all.extract 0 (6 * (D + 2) - 1) ++ (⟨#[10]⟩ : ByteArray)).data.toList = txt sep (D + 2) (4608 - (D + 2)) := by
      rw [data_app, Lib.extract_data, hdata]
      unfold txt
      rw [show D + 2 + (4608 - (D + 2)) = 4608 from by omega]
      rfl
    obtain ⟨T, hT⟩ : ∃ T, T = all.extract 0 (6 * (D + 2) - 1) ++ (⟨#[10]⟩ : ByteArray) := ⟨_, rfl⟩
    rw [← hT] at hcutd
    have hTs : T.size = 6 * (D + 2) := by rw [size_list, hcutd]; exact txt_len sep (D + 1) _
    obtain ⟨R, hR, hok, hno⟩ := runs_text sep hsep D (4608 - (D + 2))
    rw [← hcutd] at hR
    obtain ⟨k1, g1⟩ := read_text T (by omega) hR
    obtain ⟨k0, g0⟩ := awake_true
    have hw : wrap64 (wrap64 (6 * x5) - 1) = ((6 * (D + 2) - 1 : Nat) : Int) := by
      have hi : wrap64 (6 * ((D + 2 : Nat) : Int)) = ((6 * (D + 2) : Nat) : Int) := by rw [w64 (by omega) (by omega)]; omega
      rw [hK, hi]
      clear hi
      rw [w64 (by omega) (by omega)]; omega
    have q1 : (0 : Int) ≤ ((6 * (D + 2) - 1 : Nat) : Int) := by omega
    have q2 : ((6 * (D + 2) - 1 : Nat) : Int) ≤ (all.size : Int) := by omega
    have q3 : (all.extract 0 (6 * (D + 2) - 1)).size + 1 ≤ 9223372036854775807 := by rw [ByteArray.size_extract]; omega
    have hsz : ∀ m : ByteArray, m.size ≤ 100000 → m.size + x7.size ≤ 9223372036854775807 := by intro m hm; omega
    have hstep : ∀ k, eyewitnesslaw07_ReadMany.l0 (k + 1) x5 ⟨#[sep]⟩ x7 ((512 : Nat) : Int) = (read_Text.f k T).bind fun bt419 => (if x5 > 4096 then ((eyewitnesslaw07_awake.f k).bind fun t424 => (if t424 = true then (if bt419.2.2 = 3 then (if bt419.2.1 = 24576 then (some ((bt419.1.length : Int) == 0)) else (some false)) else (some false)) else (some false))) else ((eyewitnesslaw07_awake.f k).bind fun t425 => (if t425 = true then (if bt419.2.2 = 0 then ((eyewitnessref06_Count.f k bt419.1).bind fun t426 => (some (t426 == x5))) else (some false)) else (some false)))) := by
      intro k
      rw [eyewitnesslaw07_ReadMany.l0, if_neg (by decide)]
      rw [if_pos (by omega), if_pos (by simp only [ByteArray.size_append]; omega), if_pos (by simp only [ByteArray.size_append]; omega), if_pos (by simp only [ByteArray.size_append]; omega), if_pos (by simp only [ByteArray.size_append]; omega), if_pos (by simp only [ByteArray.size_append]; omega), if_pos (by simp only [ByteArray.size_append]; omega), if_pos (by simp only [ByteArray.size_append]; omega)]
      rw [← hall, hw, if_pos q1, if_pos q2, Int.toNat_natCast, if_pos q3, ← hT]
    clear hw
    by_cases hbig : 4096 < D + 2
    · obtain ⟨q, rfl, hq⟩ := hno hbig
      refine ⟨k0 + k1 + 1, ?_⟩
      rw [hstep, up_le (fun k => read_Text.mono T k) g1 _ (by omega), Option.bind_some, if_pos (by omega), up_le (fun k => eyewitnesslaw07_awake.mono k) g0 _ (by omega), Option.bind_some, if_pos rfl]
      refine (if_pos (show (3 : Int) = 3 from rfl)).trans ?_
      refine (if_pos (show ((T.size - q.length : Nat) : Int) = 24576 from at_place hTs hq hbig)).trans ?_
      rfl
    · obtain ⟨h, rfl⟩ := hok (by omega)
      have hsz2 := runs_size hR 100000 h (D + 2) rfl (fun x hx => by cases hx) (by rw [hcutd, txt_len]; simp only [List.length_nil]; omega)
      have hh := hsz2.2
      rw [hcutd, txt_len] at hh
      simp only [List.length_nil] at hh
      have hgood := runs_good hR h (D + 2) rfl (fun o ho => by cases ho) rfl (by omega)
      have hc : eyewitnessref06_Count.f (h.length + 1) h = some (h.flatten.length : Int) := by
        unfold eyewitnessref06_Count.f
        rw [flat_ok h (by omega) (by omega) _ (by omega)]
        rfl
      refine ⟨k0 + k1 + (h.length + 1) + 1, ?_⟩
      rw [hstep, up_le (fun k => read_Text.mono T k) g1 _ (by omega), Option.bind_some, if_neg (by omega), up_le (fun k => eyewitnesslaw07_awake.mono k) g0 _ (by omega), Option.bind_some, if_pos rfl]
      refine (if_pos (show (0 : Int) = 0 from rfl)).trans ?_
      show ((eyewitnessref06_Count.f (k0 + k1 + (h.length + 1)) h).bind fun t426 => some (t426 == x5)) = some true
      rw [up_le (fun k => eyewitnessref06_Count.mono h k) hc _ (by omega), Option.bind_some, hgood.2.1, hK]
      simp
  | succ d ih =>
    intro i x7 hd hi hx
    have hlen : x7.size = 6 * i := by rw [size_list, hx, rep_len]
    have hnew : ((x7 ++ (⟨#[114, 58, 120, 61, 48]⟩ : ByteArray)) ++ (⟨#[sep]⟩ : ByteArray)).data.toList = repL sep (i + 1) := by
      rw [data_app, data_app, hx, rep_add, List.append_assoc]
      rfl
    obtain ⟨k, hk⟩ := ih (i + 1) _ (by omega) (by omega) hnew
    refine ⟨k + 1, ?_⟩
    rw [eyewitnesslaw07_ReadMany.l0, if_pos (by omega), if_pos (by omega), if_pos (by simp only [ByteArray.size_append]; rw [hlen]; show 6 * i + 5 + 1 ≤ _; omega), succ_val i (by omega)]
    exact hk
theorem readMany_pure : eyewitnesslaw07_ReadMany.Pure := by
  intro a0 a1 hw
  have hr : 0 ≤ a0 ∧ a0 ≤ 255 := by
    have := hw
    simp [Lit.wf, IntKind.min, IntKind.max, IntKind.signed, IntKind.bits] at this
    constructor <;> omega
  obtain ⟨a, rfl⟩ : ∃ n : Nat, a0 = (n : Int) := ⟨a0.toNat, by omega⟩
  have hK : wrap64 (4090 + wrap64 (Int.tmod (a : Int) 12)) = ((4090 + a % 12 : Nat) : Int) := by
    have h1 : Int.tmod (a : Int) 12 = ((a % 12 : Nat) : Int) := rfl
    have h2 : a % 12 < 12 := Nat.mod_lt _ (by omega)
    have h3 : wrap64 ((a % 12 : Nat) : Int) = ((a % 12 : Nat) : Int) := w64 (by omega) (by omega)
    rw [h1, h3]
    clear h3
    rw [w64 (by omega) (by omega)]
    omega
  have hmod : a % 12 < 12 := Nat.mod_lt _ (by omega)
  unfold eyewitnesslaw07_ReadMany.f
  rw [hK]
  obtain ⟨K, hKd⟩ : ∃ K, K = 4090 + a % 12 := ⟨_, rfl⟩
  rw [← hKd]
  clear hK
  cases a1 with
  | true =>
    obtain ⟨k, hk⟩ := many_l0 K 10 (.inl rfl) K rfl (by omega) (by omega) _ 0 ⟨#[]⟩ rfl (by omega) rfl
    refine ⟨k + 1, ?_⟩
    rw [if_pos rfl, eyewitnesslaw07_ReadMany.j0]
    exact hk
  | false =>
    obtain ⟨k, hk⟩ := many_l0 K 32 (.inr rfl) K rfl (by omega) (by omega) _ 0 ⟨#[]⟩ rfl (by omega) rfl
    refine ⟨k + 1, ?_⟩
    rw [if_neg Bool.false_ne_true, eyewitnesslaw07_ReadMany.j0]
    exact hk
end Go.Proofs.YtcabnjinfkjnjaaDoor.XH
