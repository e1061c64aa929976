/- THE PLAIN LAWS OF NUM: what num.Span, num.Get, num.Put and the references' Span, Get, Put compute, as functions on lists of bytes; no Go and no memory. -/
import Derived.Test.YtcabnjinfkjnjaaDoorXNx2
import Derived.IntWalk
import Derived.Lib.IndexBytes
import Derived.Lib.ItoaLen
namespace Go.Proofs.YtcabnjinfkjnjaaDoor.X
open Go.RowKit Go.Proofs.YtcabnjinfkjnjaaDoorW.PrintWords Go.Proofs.YtcabnjinfkjnjaaDoorW.PrintLast
set_option linter.unusedVariables false

theorem ba_ext {a b : ByteArray} (h : a.data.toList = b.data.toList) : a = b := by
  cases a; cases b
  simp only [ByteArray.mk.injEq]
  exact Array.ext' h
theorem size_list (s : ByteArray) : s.size = s.data.toList.length := (data_length s).symm
theorem bt_list (s : ByteArray) (i : Nat) (h : i < s.data.toList.length) : bt s (i : Int) = ((s.data.toList[i]).toNat : Int) := by
  unfold bt
  rw [dif_pos (show (i : Int).toNat < s.size by rw [Int.toNat_natCast, size_list]; exact h)]
  rfl
theorem w64 {n : Int} (h0 : -9223372036854775808 ≤ n) (h1 : n ≤ 9223372036854775807) : wrap64 n = n := by unfold wrap64; omega

def isDig (c : UInt8) : Bool := decide (48 ≤ c.toNat) && decide (c.toNat ≤ 57)
theorem digs_contains (c : UInt8) : ([48, 49, 50, 51, 52, 53, 54, 55, 56, 57] : List UInt8).contains c = isDig c := by
  have h : ∀ n : Fin 256, ([48, 49, 50, 51, 52, 53, 54, 55, 56, 57] : List UInt8).contains (UInt8.ofNat n.val) = isDig (UInt8.ofNat n.val) := by decide +kernel
  have := h ⟨c.toNat, c.toNat_lt⟩
  simpa using this
/-- How many signs of a list look like a number. -/
def spanL (l : List UInt8) : Nat := if l.head? = some 45 then 1 + (l.tail.takeWhile isDig).length else (l.takeWhile isDig).length
def spanAt (s : ByteArray) (i : Int) : Int := if i < 0 then 0 else if i ≥ s.size then 0 else spanL (s.data.toList.drop i.toNat)

theorem take_drop_while (p : UInt8 → Bool) (l : List UInt8) : (l.takeWhile p).length + (l.dropWhile p).length = l.length := by
  rw [← List.length_append, List.takeWhile_append_dropWhile]
theorem trimPrefix_f (a : ByteArray) : strings_TrimPrefix.f a ⟨#[45]⟩ = some (if a.data.toList.head? = some 45 then a.extract 1 a.size else a) := by
  unfold strings_TrimPrefix.f stringslite_TrimPrefix.f stringslite_HasPrefix.f
  have h1 : (ByteArray.mk #[45]).size = 1 := rfl
  rw [h1]
  cases hl : a.data.toList with
  | nil =>
    have hs : a.size = 0 := by rw [size_list, hl]; rfl
    rw [if_neg (by omega)]
    simp
  | cons c r =>
    have hs : a.size = r.length + 1 := by rw [size_list, hl]; rfl
    rw [if_pos (by omega), if_pos (by omega), if_pos (by omega)]
    have h2 : (a.extract 0 ((1 : Nat) : Int).toNat).toList = [c] := by
      rw [bytesL, Lib.extract_data, hl]; rfl
    have h3 : (ByteArray.mk #[45]).toList = [45] := by rw [bytesL]
    rw [h2, h3]
    simp only [Option.bind_some, List.head?_cons, Option.some.injEq]
    by_cases hc : c = 45
    · subst hc
      rw [if_pos (by rfl), if_pos (by omega), if_pos (by omega)]
      simp
    · rw [if_neg (by simpa using hc), if_neg hc]
      simp
theorem trimLeft_f (a : ByteArray) (h : a.size ≤ 9223372036854775807) : strings_TrimLeft.f a ⟨#[48, 49, 50, 51, 52, 53, 54, 55, 56, 57]⟩ = some ⟨(a.data.toList.dropWhile isDig).toArray⟩ := by
  unfold strings_TrimLeft.f
  rw [if_pos ⟨h, by decide, by decide⟩]
  have : (fun x => ([48, 49, 50, 51, 52, 53, 54, 55, 56, 57] : List UInt8).contains x) = isDig := funext digs_contains
  show some (ByteArray.mk (a.data.toList.dropWhile (fun x => ([48, 49, 50, 51, 52, 53, 54, 55, 56, 57] : List UInt8).contains x)).toArray) = _
  rw [this]
theorem span_num (s : ByteArray) (i : Int) (hs : s.size ≤ 140737488355328) (k : Nat) : num_Span.f (k + 1) s i = some (spanAt s i) := by
  unfold num_Span.f spanAt
  by_cases h0 : i < 0
  · rw [if_pos h0, if_pos h0]; simp only [num_Span.j0]; rfl
  · rw [if_neg h0, if_neg h0]
    by_cases h1 : i ≥ s.size
    · rw [if_pos h1]; simp only [num_Span.j0]; rw [if_pos (by simpa using h1)]
    · rw [if_neg h1]; simp only [num_Span.j0]
      rw [if_neg (by simpa using h1), if_pos (by omega), if_pos (by omega), trimPrefix_f]
      have hl : (s.extract i.toNat s.size).data.toList = s.data.toList.drop i.toNat := Lib.extract_to_end s i.toNat
      have hlen : (s.extract i.toNat s.size).size = (s.data.toList.drop i.toNat).length := by rw [size_list, hl]
      have hle : (s.data.toList.drop i.toNat).length ≤ 140737488355328 := by rw [List.length_drop, ← size_list]; omega
      generalize s.extract i.toNat s.size = a at hl hlen
      generalize s.data.toList.drop i.toNat = l at hl hlen hle
      simp only [Option.bind_some]
      unfold spanL
      rw [hl]
      by_cases hh : l.head? = some 45
      · rw [if_pos hh, if_pos hh]
        have he : (a.extract 1 a.size).data.toList = l.tail := by rw [Lib.extract_to_end, hl, List.drop_one]
        have hle1 : (a.extract 1 a.size).size ≤ 9223372036854775807 := by rw [size_list, he, List.length_tail]; omega
        rw [trimLeft_f _ hle1, he]
        simp only [Option.bind_some]
        have h3 := take_drop_while isDig l.tail
        have h4 : l.tail.length + 1 = l.length := by cases l with | nil => cases hh | cons c r => rfl
        have h5 : (ByteArray.mk (l.tail.dropWhile isDig).toArray).size = (l.tail.dropWhile isDig).length := by rw [size_list]
        rw [h5, hlen, w64 (by omega) (by omega)]
        congr 1
        push_cast
        omega
      · rw [if_neg hh, if_neg hh]
        rw [trimLeft_f _ (by omega), hl]
        simp only [Option.bind_some]
        have h3 := take_drop_while isDig l
        have h5 : (ByteArray.mk (l.dropWhile isDig).toArray).size = (l.dropWhile isDig).length := by rw [size_list]
        rw [h5, hlen, w64 (by omega) (by omega)]
        congr 1
        omega
theorem ref_span_loop (s : ByteArray) (hs : s.size ≤ 140737488355328) (i : Nat) : ∀ (d n k : Nat), d = s.size - (i + n) → d < k → i + n ≤ s.size → eyewitnessref05_Span.l0 k s i n = some ((n + ((s.data.toList.drop (i + n)).takeWhile isDig).length : Nat) : Int) := by
  intro d
  induction d with
  | zero =>
    intro n k hd hk hle
    obtain ⟨k, rfl⟩ : ∃ m, k = m + 1 := ⟨k - 1, by omega⟩
    simp only [eyewitnessref05_Span.l0]
    rw [w64 (by omega) (by omega), if_neg (by omega), List.drop_eq_nil_of_le (by rw [← size_list]; omega)]
    simp
  | succ d ih =>
    intro n k hd hk hle
    obtain ⟨k, rfl⟩ : ∃ m, k = m + 1 := ⟨k - 1, by omega⟩
    simp only [eyewitnessref05_Span.l0]
    have hlt : i + n < s.data.toList.length := by rw [← size_list]; omega
    have hb := bt_list s (i + n) hlt
    rw [w64 (by omega) (by omega), if_pos (by omega), if_pos (by omega), show ((i : Int) + (n : Int)) = ((i + n : Nat) : Int) from by omega, hb, List.drop_eq_getElem_cons hlt, List.takeWhile_cons]
    generalize s.data.toList[i + n] = x at *
    by_cases h1 : 48 ≤ x.toNat
    · rw [if_pos (by omega)]
      by_cases h2 : x.toNat ≤ 57
      · rw [if_pos (by omega), w64 (by omega) (by omega), show ((n : Int) + 1) = ((n + 1 : Nat) : Int) from by omega, ih (n + 1) k (by omega) (by omega) (by omega)]
        rw [if_pos (by simp [isDig, h1, h2]), List.length_cons, show i + (n + 1) = i + n + 1 from by omega]
        congr 1
        push_cast
        omega
      · rw [if_neg (by omega), if_neg (by simp [isDig, h2])]
        simp
    · rw [if_neg (by omega), if_neg (by simp [isDig]; intro h; exact absurd h h1)]
      simp
theorem span_ref (s : ByteArray) (i : Int) (hs : s.size ≤ 140737488355328) (k : Nat) (hk : s.size + 3 ≤ k) : eyewitnessref05_Span.f k s i = some (spanAt s i) := by
  obtain ⟨k, rfl⟩ : ∃ m, k = m + 1 + 1 := ⟨k - 2, by omega⟩
  unfold eyewitnessref05_Span.f spanAt
  by_cases h0 : i < 0
  · rw [if_pos h0, if_pos h0]; simp only [eyewitnessref05_Span.j0]; rfl
  · rw [if_neg h0, if_neg h0]
    by_cases h1 : i ≥ s.size
    · rw [if_pos h1]; simp only [eyewitnessref05_Span.j0]; rw [if_pos (by simpa using h1)]
    · rw [if_neg h1]; simp only [eyewitnessref05_Span.j0]
      rw [if_neg (by simpa using h1), if_pos (by omega), if_pos (by omega)]
      obtain ⟨i, rfl⟩ : ∃ n : Nat, i = n := ⟨i.toNat, by omega⟩
      have hlt : i < s.data.toList.length := by rw [← size_list]; omega
      rw [bt_list s i hlt, Int.toNat_natCast]
      unfold spanL
      have hdr := List.drop_eq_getElem_cons hlt
      rw [hdr, List.head?_cons]
      generalize s.data.toList[i] = x at *
      by_cases h2 : x = 45
      · subst h2
        rw [if_pos (by decide), if_pos rfl]
        simp only [eyewitnessref05_Span.j1]
        have := ref_span_loop s hs i (s.size - (i + 1)) 1 k rfl (by omega) (by omega)
        rw [show ((1 : Nat) : Int) = 1 from rfl] at this
        rw [this, List.tail_cons]
      · have hc : ¬ ((x.toNat : Int) = 45) := fun h => h2 (UInt8.toNat_inj.mp (by show x.toNat = 45; omega))
        rw [if_neg hc, if_neg (by simpa using h2)]
        simp only [eyewitnessref05_Span.j1]
        have := ref_span_loop s hs i (s.size - (i + 0)) 0 k rfl (by omega) (by omega)
        rw [show ((0 : Nat) : Int) = 0 from rfl] at this
        rw [this, Nat.add_zero, Nat.zero_add, hdr]

/-! ### Get -/
theorem isDig_iff (x : UInt8) : isDig x = true ↔ 48 ≤ x.toNat ∧ x.toNat ≤ 57 := by simp [isDig]
theorem dropWhile_nil (p : UInt8 → Bool) (l : List UInt8) (h : ∀ x ∈ l, p x = true) : l.dropWhile p = [] := by
  induction l with
  | nil => rfl
  | cons a l ih => rw [List.dropWhile_cons, if_pos (h a (List.mem_cons_self ..))]; exact ih fun x hx => h x (List.mem_cons_of_mem _ hx)
theorem takeWhile_all (p : UInt8 → Bool) (l : List UInt8) (h : (l.takeWhile p).length = l.length) : ∀ x ∈ l, p x = true := by
  induction l with
  | nil => intro x hx; cases hx
  | cons a l ih =>
    intro x hx
    rw [List.takeWhile_cons] at h
    split at h
    · rename_i ha
      cases List.mem_cons.1 hx with
      | inl e => rw [e]; exact ha
      | inr e => exact ih (by simpa using h) x e
    · simp at h
theorem takeWhile_len (p : UInt8 → Bool) (l : List UInt8) (h : ∀ x ∈ l, p x = true) : (l.takeWhile p).length = l.length := by
  induction l with
  | nil => rfl
  | cons a l ih => rw [List.takeWhile_cons, if_pos (h a (List.mem_cons_self ..)), List.length_cons, ih fun x hx => h x (List.mem_cons_of_mem _ hx), List.length_cons]
theorem trimD_iff (d : List UInt8) : trimD d = [] ↔ ∀ x ∈ d, isDig x = true := by
  constructor
  · intro h x hx; exact (isDig_iff x).2 (trimD_all d h x hx)
  · intro h
    have e : (fun x => digs.contains x) = isDig := funext digs_contains
    unfold trimD Lib.trimS Lib.trimLeftS Lib.trimRightS
    rw [e, dropWhile_nil isDig d.reverse (fun x hx => h x (by simpa using hx))]
    rfl
theorem cutD_cons (c : UInt8) (r : List UInt8) : cutD (c :: r) = (if c = 45 then r else c :: r) ∧ isNeg (c :: r) = decide (c = 45) := by
  unfold cutD isNeg Lib.trimPrefix Lib.hasPrefix
  by_cases h : c = 45
  · subst h; simp
  · have h' : ¬ (45 = c) := fun e => h e.symm
    simp [h, h', List.isPrefixOf]
theorem tdiv_pos (c : Int) (h0 : 0 ≤ c) (h : c ≤ 9) : wrap64 (Int.tdiv (wrap64 (9223372036854775807 - c)) 10) = (9223372036854775807 - c) / 10 := by
  have e1 : wrap64 (9223372036854775807 - c) = 9223372036854775807 - c := w64 (by omega) (by omega)
  rw [e1, Int.tdiv_eq_ediv_of_nonneg (show (0 : Int) ≤ 9223372036854775807 - c by omega)]
  exact w64 (by omega) (by omega)
theorem tdiv_neg (c : Int) (h0 : 0 ≤ c) (h : c ≤ 9) : wrap64 (Int.tdiv (wrap64 ((-9223372036854775808) - -c)) 10) = -((9223372036854775808 - c) / 10) := by
  have e1 : wrap64 ((-9223372036854775808) - -c) = -(9223372036854775808 - c) := by rw [w64 (by omega) (by omega)]; omega
  rw [e1, Int.neg_tdiv, Int.tdiv_eq_ediv_of_nonneg (show (0 : Int) ≤ 9223372036854775808 - c by omega)]
  exact w64 (by omega) (by omega)
theorem byte_val (x : Int) (c : Nat) (hc : x = c + 48) (h : c ≤ 9) : wrap64 (wrap64 x - 48) = (c : Int) := by
  have e1 : wrap64 x = x := w64 (by omega) (by omega)
  rw [e1, w64 (by omega) (by omega)]
  omega
theorem next_pos (N c : Nat) (h : 10 * N + c ≤ 9223372036854775808) : wrap64 (wrap64 (10 * (N : Int)) + c) = ((10 * N + c : Nat) : Int) ∨ 9223372036854775807 < 10 * N + c := by
  by_cases h2 : 9223372036854775807 < 10 * N + c
  · exact .inr h2
  · left
    have e1 : wrap64 (10 * (N : Int)) = 10 * (N : Int) := w64 (by omega) (by omega)
    rw [e1, w64 (by omega) (by omega)]
    omega
theorem next_neg (N c : Nat) (h : 10 * N + c ≤ 9223372036854775808) : wrap64 (wrap64 (10 * -(N : Int)) + -(c : Int)) = -((10 * N + c : Nat) : Int) := by
  have e1 : wrap64 (10 * -(N : Int)) = 10 * -(N : Int) := w64 (by omega) (by omega)
  rw [e1, w64 (by omega) (by omega)]
  omega
theorem one_val (c : Nat) (h : c ≤ 9) : wrap64 (1 * (c : Int)) = c ∧ wrap64 (-1 * (c : Int)) = -(c : Int) := by
  constructor
  · rw [w64 (by omega) (by omega)]; omega
  · rw [w64 (by omega) (by omega)]; omega
theorem succ_val (i : Nat) (h : i ≤ 140737488355328) : wrap64 ((i : Int) + 1) = ((i + 1 : Nat) : Int) := by
  rw [w64 (by omega) (by omega)]
  omega
theorem cutD_nil : cutD [] = [] ∧ isNeg [] = false := by decide
theorem get_loop_pos (d : ByteArray) (hd : d.size ≤ 140737488355328) (hall : ∀ x ∈ d.data.toList, isDig x = true) : ∀ (m i N k : Nat), m = d.size - i → m < k → i ≤ d.size → N ≤ 9223372036854775807 →
    eyewitnessref05_Get.l0 k 1 d N i = some (getOf false (getLoop 9223372036854775807 N (d.data.toList.drop i))) := by
  intro m
  induction m with
  | zero =>
    intro i N k hm hk hi hN
    obtain ⟨k, rfl⟩ : ∃ m, k = m + 1 := ⟨k - 1, by omega⟩
    simp only [eyewitnessref05_Get.l0]
    rw [if_neg (by omega), List.drop_eq_nil_of_le (by rw [← size_list]; omega)]
    rfl
  | succ m ih =>
    intro i N k hm hk hi hN
    obtain ⟨k, rfl⟩ : ∃ m, k = m + 1 := ⟨k - 1, by omega⟩
    simp only [eyewitnessref05_Get.l0]
    have hlt : i < d.data.toList.length := by rw [← size_list]; omega
    have hb := bt_list d i hlt
    have hx := (isDig_iff _).1 (hall _ (List.getElem_mem hlt))
    rw [if_pos (by omega), if_pos (by omega), if_pos (by omega), hb, List.drop_eq_getElem_cons hlt]
    generalize d.data.toList[i] = x at *
    obtain ⟨c, hc⟩ : ∃ c : Nat, x.toNat = c + 48 := ⟨x.toNat - 48, by omega⟩
    have hc9 : c ≤ 9 := by omega
    rw [byte_val (x.toNat : Int) c (by omega) hc9, (one_val c hc9).1, tdiv_pos (c : Int) (by omega) (by omega)]
    rw [getLoop, hc, Nat.add_sub_cancel]
    by_cases h : 9223372036854775807 < 10 * N + c
    · have h1 : (N : Int) > (9223372036854775807 - (c : Int)) / 10 := by omega
      rw [if_pos h1, if_pos h]; rfl
    · have h1 : ¬ (N : Int) > (9223372036854775807 - (c : Int)) / 10 := by omega
      have h2 : ¬ ((1 : Int) < 0) := by omega
      rw [if_neg h1, if_neg h2, if_neg h, (next_pos N c (by omega)).resolve_right h, succ_val i (by omega)]
      exact ih (i + 1) (10 * N + c) k (by omega) (by omega) (by omega) (by omega)
theorem get_loop_neg (d : ByteArray) (hd : d.size ≤ 140737488355328) (hall : ∀ x ∈ d.data.toList, isDig x = true) : ∀ (m i N k : Nat), m = d.size - i → m < k → i ≤ d.size → N ≤ 9223372036854775808 →
    eyewitnessref05_Get.l0 k (-1) d (-(N : Int)) i = some (getOf true (getLoop 9223372036854775808 N (d.data.toList.drop i))) := by
  intro m
  induction m with
  | zero =>
    intro i N k hm hk hi hN
    obtain ⟨k, rfl⟩ : ∃ m, k = m + 1 := ⟨k - 1, by omega⟩
    simp only [eyewitnessref05_Get.l0]
    rw [if_neg (by omega), List.drop_eq_nil_of_le (by rw [← size_list]; omega)]
    rfl
  | succ m ih =>
    intro i N k hm hk hi hN
    obtain ⟨k, rfl⟩ : ∃ m, k = m + 1 := ⟨k - 1, by omega⟩
    simp only [eyewitnessref05_Get.l0]
    have hlt : i < d.data.toList.length := by rw [← size_list]; omega
    have hb := bt_list d i hlt
    have hx := (isDig_iff _).1 (hall _ (List.getElem_mem hlt))
    rw [if_pos (by omega), if_pos (by omega), if_neg (by omega), if_pos (by omega), hb, List.drop_eq_getElem_cons hlt]
    generalize d.data.toList[i] = x at *
    obtain ⟨c, hc⟩ : ∃ c : Nat, x.toNat = c + 48 := ⟨x.toNat - 48, by omega⟩
    have hc9 : c ≤ 9 := by omega
    rw [byte_val (x.toNat : Int) c (by omega) hc9, (one_val c hc9).2, tdiv_neg (c : Int) (by omega) (by omega)]
    rw [getLoop, hc, Nat.add_sub_cancel]
    by_cases h : 9223372036854775808 < 10 * N + c
    · have h1 : -(N : Int) < -((9223372036854775808 - (c : Int)) / 10) := by omega
      rw [if_pos h1, if_pos h]; rfl
    · have h1 : ¬ -(N : Int) < -((9223372036854775808 - (c : Int)) / 10) := by omega
      rw [if_neg h1, if_neg h, next_neg N c (by omega), succ_val i (by omega)]
      exact ih (i + 1) (10 * N + c) k (by omega) (by omega) (by omega) (by omega)
theorem get_ref (s : ByteArray) (hs : s.size ≤ 140737488351232) (k : Nat) (hk : s.size + 10 ≤ k) : eyewitnessref05_Get.f k s = some (getV s.data.toList) := by
  obtain ⟨k, rfl⟩ : ∃ m, k = m + 1 + 1 + 1 := ⟨k - 3, by omega⟩
  unfold eyewitnessref05_Get.f getV
  cases hl : s.data.toList with
  | nil =>
    have h0 : s.size = 0 := by rw [size_list, hl]; rfl
    rw [if_neg (by omega), cutD_nil.1, if_pos rfl]
    simp only [eyewitnessref05_Get.j0]
    rw [if_neg (by simp)]
    simp only [eyewitnessref05_Get.j1]
    rw [if_pos (by omega)]
    simp only [eyewitnessref05_Get.j2]
    rfl
  | cons c r =>
    have h0 : s.size = r.length + 1 := by rw [size_list, hl]; rfl
    have hb : bt s 0 = (c.toNat : Int) := by
      have := bt_list s 0 (by rw [hl]; simp)
      simp only [hl, List.getElem_cons_zero] at this
      exact this
    have hsp : eyewitnessref05_Span.f (k + 1) s 0 = some ((spanL (c :: r) : Nat) : Int) := by
      rw [span_ref s 0 (by omega) (k + 1) (by omega)]
      unfold spanAt
      rw [if_neg (by omega), if_neg (by omega), hl]
      rfl
    rw [if_pos (by omega), if_pos (by omega), hb, (cutD_cons c r).1, (cutD_cons c r).2]
    by_cases hc : c = 45
    · subst hc
      simp only [eyewitnessref05_Get.j0]
      rw [if_pos (by rfl), if_pos (by omega)]
      simp only [eyewitnessref05_Get.j1, if_true]
      have he : (s.extract 1 s.size).data.toList = r := by rw [Lib.extract_to_end, hl]; rfl
      have hes : (s.extract 1 s.size).size = r.length := by rw [size_list, he]
      generalize s.extract 1 s.size = d at he hes
      rw [hes]
      cases r with
      | nil =>
        rw [if_pos (by rfl), if_pos rfl]
        simp only [eyewitnessref05_Get.j2]
        rfl
      | cons x r =>
        rw [if_neg (show ¬ (((x :: r).length : Nat) : Int) = 0 by simp only [List.length_cons]; omega), hsp, if_neg (show ¬ (x :: r = []) by simp)]
        simp only [Option.bind_some]
        have hbx : bt d 0 = (x.toNat : Int) := by
          have := bt_list d 0 (by rw [he]; simp)
          simp only [he, List.getElem_cons_zero] at this
          exact this
        have hspan : spanL (45 :: x :: r) = 1 + ((x :: r).takeWhile isDig).length := by unfold spanL; rw [if_pos (by rfl)]; rfl
        by_cases hall : ∀ y ∈ x :: r, isDig y = true
        · have htr := (trimD_iff (x :: r)).2 hall
          have hle : ((1 + (x :: r).length : Nat) : Int) = (s.size : Int) := by rw [h0]; omega
          rw [htr, if_neg (show ¬ (([] : List UInt8) ≠ []) by simp), hspan, takeWhile_len _ _ hall, if_pos hle, if_pos (show (0 : Int) < (((x :: r).length : Nat) : Int) by simp only [List.length_cons]; omega), hbx]
          by_cases hz : x = 48
          · subst hz
            rw [if_pos (show (((48 : UInt8).toNat : Nat) : Int) = 48 by rfl), if_pos (show ((48 :: r).head? = some (48 : UInt8) ∧ (45 :: 48 :: r : List UInt8) ≠ [48]) from ⟨rfl, by simp⟩)]
            split
            · simp only [eyewitnessref05_Get.j2]; rfl
            · simp only [eyewitnessref05_Get.j2]; rfl
          · rw [if_neg (fun h => hz (UInt8.toNat_inj.mp (by show x.toNat = 48; omega))), if_neg (by simp [hz])]
            simp only [eyewitnessref05_Get.j2]
            rw [if_neg (by simp)]
            have := get_loop_neg d (by omega) (by rw [he]; exact hall) (d.size - 0) 0 0 k rfl (by simp at h0; omega) (by omega) (by omega)
            rw [he] at this
            simpa using this
        · have htr : trimD (x :: r) ≠ [] := fun h => hall ((trimD_iff _).1 h)
          rw [if_pos htr, if_neg]
          · simp only [eyewitnessref05_Get.j2]; rfl
          · intro h
            apply hall
            apply takeWhile_all
            rw [hspan, h0] at h
            simp at h ⊢
            omega
    · have hcn : ¬ ((c.toNat : Int) == 45) = true := by
        intro h
        apply hc
        apply UInt8.toNat_inj.mp
        show c.toNat = 45
        have := eq_of_beq h
        omega
      simp only [eyewitnessref05_Get.j0]
      rw [if_neg hcn]
      simp only [eyewitnessref05_Get.j1, if_neg hc]
      rw [if_neg (show ¬ (s.size : Int) = 0 by omega), hsp, if_neg (show ¬ (c :: r = []) by simp)]
      simp only [Option.bind_some]
      have hspan : spanL (c :: r) = ((c :: r).takeWhile isDig).length := by unfold spanL; rw [if_neg (by simpa using hc)]
      by_cases hall : ∀ y ∈ c :: r, isDig y = true
      · have htr := (trimD_iff (c :: r)).2 hall
        have hle : (((c :: r).length : Nat) : Int) = (s.size : Int) := by rw [h0]; rfl
        rw [htr, if_neg (show ¬ (([] : List UInt8) ≠ []) by simp), hspan, takeWhile_len _ _ hall, if_pos hle, if_pos (show (0 : Int) < (s.size : Int) by omega), hb]
        by_cases hz : c = 48
        · subst hz
          rw [if_pos (by rfl)]
          cases r with
          | nil =>
            rw [if_neg (by simp at h0; omega), if_neg (by simp)]
            simp only [eyewitnessref05_Get.j2]
            rw [if_neg (by simp)]
            have := get_loop_pos s (by omega) (by rw [hl]; exact hall) (s.size - 0) 0 0 k rfl (by omega) (by omega) (by omega)
            rw [hl] at this
            simpa using this
          | cons y r =>
            rw [if_pos (by simp at h0; omega), if_pos (by simp)]
            simp only [eyewitnessref05_Get.j2]
            rfl
        · rw [if_neg (fun h => hz (UInt8.toNat_inj.mp (by show c.toNat = 48; omega))), if_neg (by simp [hz])]
          simp only [eyewitnessref05_Get.j2]
          rw [if_neg (by simp)]
          have := get_loop_pos s (by omega) (by rw [hl]; exact hall) (s.size - 0) 0 0 k rfl (by omega) (by omega) (by omega)
          rw [hl] at this
          simpa [hc] using this
      · have htr : trimD (c :: r) ≠ [] := fun h => hall ((trimD_iff _).1 h)
        rw [if_pos htr, if_neg]
        · simp only [eyewitnessref05_Get.j2]; rfl
        · intro h
          apply hall
          apply takeWhile_all
          rw [hspan, h0] at h
          simp at h ⊢
          omega

/-! ### Put -/
theorem decDigits_small {u : Nat} (h : u < 10) : Lib.decDigits u = [UInt8.ofNat (48 + u)] := by rw [Lib.decDigits, dif_pos h]
theorem decDigits_big {u : Nat} (h : ¬ u < 10) : Lib.decDigits u = Lib.decDigits (u / 10) ++ [UInt8.ofNat (48 + u % 10)] := by rw [Lib.decDigits, dif_neg h]
theorem str_digit (u : Nat) (h : u < 10) : strOfNums ([((48 + u : Nat) : Int)]) = ⟨#[UInt8.ofNat (48 + u)]⟩ := by
  have : ∀ n : Fin 10, strOfNums ([((48 + n.val : Nat) : Int)]) = ⟨#[UInt8.ofNat (48 + n.val)]⟩ := by decide
  exact this ⟨u, h⟩
theorem cat_digit (u : Nat) (h : u < 10) (acc : List UInt8) : strOfNums ([((48 + u : Nat) : Int)]) ++ (⟨acc.toArray⟩ : ByteArray) = ⟨(UInt8.ofNat (48 + u) :: acc).toArray⟩ := by
  rw [str_digit u h]
  apply ba_ext
  simp [ByteArray.data_append]
theorem cat_minus (l : List UInt8) : (⟨#[45]⟩ : ByteArray) ++ (⟨l.toArray⟩ : ByteArray) = ⟨(45 :: l).toArray⟩ := by
  apply ba_ext
  simp [ByteArray.data_append]
theorem size_mk (l : List UInt8) : (ByteArray.mk l.toArray).size = l.length := by rw [size_list]
theorem size_step (y : Int) (acc : List UInt8) (h : acc.length ≤ 30) : (strOfNums [y]).size + (ByteArray.mk acc.toArray).size ≤ 9223372036854775807 := by
  rw [strOfNums_size, size_mk]
  simp only [List.length_cons, List.length_nil]
  omega
theorem put_step (n : Int) (hn : ¬ n < 0) (k u : Nat) (acc : List UInt8) (h2 : u ≤ 9223372036854775807) (h3 : acc.length ≤ 30) :
    eyewitnessref05_Put.l0 (k + 1) n ⟨acc.toArray⟩ (u : Int) = if u < 10 then some ⟨(UInt8.ofNat (48 + u % 10) :: acc).toArray⟩ else eyewitnessref05_Put.l0 k n ⟨(UInt8.ofNat (48 + u % 10) :: acc).toArray⟩ ((u / 10 : Nat) : Int) := by
  have e0 : Int.tmod (u : Int) 10 = ((u % 10 : Nat) : Int) := by rw [Int.tmod_eq_emod_of_nonneg (by omega)]; omega
  have e1 : (wrap64 (48 + Int.tmod (u : Int) 10)) % 256 = ((48 + u % 10 : Nat) : Int) := by rw [e0, w64 (by omega) (by omega)]; omega
  have e2 : wrap64 (Int.tdiv (u : Int) 10) = ((u / 10 : Nat) : Int) := by rw [Int.tdiv_eq_ediv_of_nonneg (by omega), w64 (by omega) (by omega)]; omega
  rw [eyewitnessref05_Put.l0]
  rw [if_neg (show ¬ Int.tmod (u : Int) 10 < 0 by omega)]
  simp only [Option.bind_some]
  rw [e1, e2, if_pos (size_step _ acc h3), cat_digit (u % 10) (by omega)]
  by_cases hu : u < 10
  · rw [if_pos (show ((u / 10 : Nat) : Int) = 0 by omega), if_neg hn, if_pos hu]
  · rw [if_neg (show ¬ ((u / 10 : Nat) : Int) = 0 by omega), if_neg hu]
theorem put_pos (n : Int) (hn : ¬ n < 0) : ∀ (k u : Nat) (acc : List UInt8), u < 10 ^ k → u ≤ 9223372036854775807 → acc.length + k ≤ 30 →
    eyewitnessref05_Put.l0 (k + 1) n ⟨acc.toArray⟩ (u : Int) = some ⟨(Lib.decDigits u ++ acc).toArray⟩ := by
  intro k
  induction k with
  | zero =>
    intro u acc h1 h2 h3
    have hu : u = 0 := by simpa using h1
    subst hu
    rw [put_step n hn _ _ _ h2 (by omega), if_pos (by omega), decDigits_small (by omega)]
    rfl
  | succ k ih =>
    intro u acc h1 h2 h3
    rw [put_step n hn _ _ _ h2 (by omega)]
    by_cases hu : u < 10
    · rw [if_pos hu, decDigits_small hu, Nat.mod_eq_of_lt hu]
      rfl
    · rw [if_neg hu, decDigits_big hu]
      rw [ih (u / 10) _ (by rw [Nat.pow_succ] at h1; omega) (by omega) (by simp only [List.length_cons]; omega)]
      simp
theorem put_neg (n : Int) (hn : n < 0) : ∀ (k u : Nat) (acc : List UInt8), 0 < u → u < 10 ^ k → u ≤ 9223372036854775808 → acc.length + k ≤ 30 →
    eyewitnessref05_Put.l0 (k + 1) n ⟨acc.toArray⟩ (-(u : Int)) = some ⟨(45 :: (Lib.decDigits u ++ acc)).toArray⟩ := by
  intro k
  induction k with
  | zero =>
    intro u acc h0 h1 h2 h3
    have hu : u = 0 := by simpa using h1
    omega
  | succ k ih =>
    intro u acc h0 h1 h2 h3
    have e0 : Int.tmod (-(u : Int)) 10 = -((u % 10 : Nat) : Int) := by rw [Int.neg_tmod, Int.tmod_eq_emod_of_nonneg (by omega)]; omega
    have e2 : wrap64 (Int.tdiv (-(u : Int)) 10) = -((u / 10 : Nat) : Int) := by rw [Int.neg_tdiv, Int.tdiv_eq_ediv_of_nonneg (by omega), w64 (by omega) (by omega)]; omega
    have key : ∀ y : Int, y = ((48 + u % 10 : Nat) : Int) → (if (strOfNums [y]).size + (ByteArray.mk acc.toArray).size ≤ 9223372036854775807 then (if (wrap64 (Int.tdiv (-(u : Int)) 10)) = 0 then (if n < 0 then (if 1 + ((strOfNums [y]) ++ (ByteArray.mk acc.toArray)).size ≤ 9223372036854775807 then (some ((⟨#[45]⟩ : ByteArray) ++ ((strOfNums [y]) ++ (ByteArray.mk acc.toArray)))) else (none)) else (some ((strOfNums [y]) ++ (ByteArray.mk acc.toArray)))) else (eyewitnessref05_Put.l0 (k + 1) n ((strOfNums [y]) ++ (ByteArray.mk acc.toArray)) (wrap64 (Int.tdiv (-(u : Int)) 10)))) else (none)) = some ⟨(45 :: (Lib.decDigits u ++ acc)).toArray⟩ := by
      intro y hy
      subst hy
      rw [e2, if_pos (size_step _ acc (by omega)), cat_digit (u % 10) (by omega)]
      by_cases hu : u < 10
      · rw [if_pos (show -((u / 10 : Nat) : Int) = 0 by omega), if_pos hn, decDigits_small hu, Nat.mod_eq_of_lt hu, size_mk, if_pos (by simp only [List.length_cons]; omega), cat_minus]
        rfl
      · rw [if_neg (show ¬ -((u / 10 : Nat) : Int) = 0 by omega), decDigits_big hu]
        rw [ih (u / 10) _ (by omega) (by rw [Nat.pow_succ] at h1; omega) (by omega) (by simp only [List.length_cons]; omega)]
        simp
    rw [eyewitnessref05_Put.l0]
    by_cases hz : Int.tmod (-(u : Int)) 10 < 0
    · rw [if_pos hz]
      simp only [Option.bind_some]
      refine key _ ?_
      have e3 : wrap64 (-(Int.tmod (-(u : Int)) 10)) = ((u % 10 : Nat) : Int) := by rw [e0, w64 (by omega) (by omega)]; omega
      rw [e3, w64 (by omega) (by omega)]
      omega
    · rw [if_neg hz]
      simp only [Option.bind_some]
      refine key _ ?_
      rw [e0, w64 (by omega) (by omega)]
      rw [e0] at hz
      omega
theorem put_ref (n : Int) (h0 : -9223372036854775808 ≤ n) (h1 : n ≤ 9223372036854775807) : eyewitnessref05_Put.f 21 n = some ⟨(Lib.itoa n).toArray⟩ := by
  unfold eyewitnessref05_Put.f
  by_cases hn : n < 0
  · obtain ⟨u, rfl⟩ : ∃ u : Nat, n = -(u : Int) := ⟨n.natAbs, by omega⟩
    have := put_neg _ hn 20 u [] (by omega) (by omega) (by omega) (by simp)
    rw [Lib.itoa_neg u (by omega)]
    simpa using this
  · obtain ⟨u, rfl⟩ : ∃ u : Nat, n = (u : Int) := ⟨n.toNat, by omega⟩
    have := put_pos _ hn 20 u [] (by omega) (by omega) (by simp)
    rw [Lib.itoa_nonneg]
    simpa using this
theorem put_num (n : Int) (h0 : -9223372036854775808 ≤ n) (h1 : n ≤ 9223372036854775807) : num_Put.f n = some ⟨(Lib.itoa n).toArray⟩ := by
  unfold num_Put.f strconv_Itoa.f
  rw [if_pos h0, if_pos h1]
  rfl
end Go.Proofs.YtcabnjinfkjnjaaDoor.X
