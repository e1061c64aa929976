/- THE PLAIN LAWS OF READ: what read.Text and the reference's Text compute, as one function on lists of bytes; no Go and no memory. -/
import Derived.Test.YtcabnjinfkjnjaaDoorGReadText
import Derived.Test.YtcabnjinfkjnjaaDoorPureNum
namespace Go.Proofs.YtcabnjinfkjnjaaDoor.XH
open Go.RowKit Go.Proofs.YtcabnjinfkjnjaaDoorW.PrintWords Go.Proofs.YtcabnjinfkjnjaaDoorW.PrintLast Go.Proofs.YtcabnjinfkjnjaaDoor.X
set_option linter.unusedVariables false

/-! ### one text, on lists -/
inductive Res (α : Type) where
  | ok (x : α) (rest : List UInt8)
  | no (rest : List UInt8) (e : Int)
def isLow (c : UInt8) : Bool := decide (97 ≤ c.toNat) && decide (c.toNat ≤ 122)
def nameLen (l : List UInt8) : Nat := ((l.take 8).takeWhile isLow).length
def mkB (l : List UInt8) : ByteArray := ⟨l.toArray⟩
/-- The number at the head of a list: behind its name and the sign '='. -/
def valL (w : Bool) (nm : ByteArray) (l : List UInt8) : Res S61 :=
  if (getV (l.take (spanL l))).2 = 0 then .ok ⟨w, nm, (getV (l.take (spanL l))).1⟩ (l.drop (spanL l)) else .no l (getV (l.take (spanL l))).2
def nameL (w : Bool) (l : List UInt8) : Res S61 :=
  if nameLen l = 0 then .no l 2
  else match l.drop (nameLen l) with
    | [] => .no [] 2
    | c :: r => if c = 61 then valL w (mkB (l.take (nameLen l))) r else .no (c :: r) 2
def colonL (w : Bool) : List UInt8 → Res S61
  | [] => .no [] 2
  | c :: r => if c = 58 then nameL w r else .no (c :: r) 2
def oneL : List UInt8 → Res S61
  | [] => .no [] 2
  | c :: r => if c = 119 then colonL true r else if c = 114 then colonL false r else .no (c :: r) 2
def opL (n : Nat) (l : List UInt8) : Res S61 := if n = 4096 ∧ (l.head? = some 119 ∨ l.head? = some 114) then .no l 3 else oneL l

/-! ### places -/
structure Suf (s : ByteArray) (i : Nat) (r : List UInt8) : Prop where
  le : i ≤ s.size
  eq : s.data.toList.drop i = r
theorem Suf.len {s : ByteArray} {i : Nat} {r : List UInt8} (h : Suf s i r) : r.length = s.size - i := by rw [← h.eq, List.length_drop, ← size_list]
theorem Suf.tail {s : ByteArray} {i : Nat} {c : UInt8} {r : List UInt8} (h : Suf s i (c :: r)) : Suf s (i + 1) r := by
  have hl := h.len
  simp only [List.length_cons] at hl
  refine ⟨by omega, ?_⟩
  rw [← List.drop_drop, h.eq]
  rfl
theorem Suf.lt {s : ByteArray} {i : Nat} {c : UInt8} {r : List UInt8} (h : Suf s i (c :: r)) : i < s.size := by
  have hl := h.len
  simp only [List.length_cons] at hl
  omega
theorem Suf.bt {s : ByteArray} {i : Nat} {c : UInt8} {r : List UInt8} (h : Suf s i (c :: r)) : bt s (i : Int) = (c.toNat : Int) := by
  have hlt : i < s.data.toList.length := by rw [← size_list]; exact h.lt
  rw [bt_list s i hlt]
  have := List.drop_eq_getElem_cons hlt
  rw [h.eq] at this
  rw [(List.cons.inj this).1]
theorem Suf.nil {s : ByteArray} {i : Nat} (h : Suf s i []) : i = s.size := by
  have hl := h.len
  have := h.le
  simp only [List.length_nil] at hl
  omega
theorem Suf.drop {s : ByteArray} {i : Nat} {r : List UInt8} (h : Suf s i r) (k : Nat) (hk : k ≤ r.length) : Suf s (i + k) (r.drop k) := by
  have hl := h.len
  have := h.le
  refine ⟨by omega, ?_⟩
  rw [← List.drop_drop, h.eq]
theorem Suf.start (s : ByteArray) : Suf s 0 s.data.toList := ⟨Nat.zero_le _, rfl⟩
theorem toNat_eq {c : UInt8} {n : Nat} (hn : n < 256) : ((c.toNat : Int) = (n : Int)) ↔ c = UInt8.ofNat n := by
  constructor
  · intro h
    apply UInt8.toNat_inj.mp
    rw [UInt8.toNat_ofNat']
    omega
  · rintro rfl
    rw [UInt8.toNat_ofNat']
    omega

/-! ### the cursor -/
theorem sees_err (s : ByteArray) (i o e b : Int) (he : e ≠ 0) : read_cursor_sees.f s i o e b = some (false, s, i, o, e) := by
  unfold read_cursor_sees.f; rw [if_neg he]
theorem take_err (s : ByteArray) (i o e b : Int) (he : e ≠ 0) : read_cursor_take.f s i o e b = some (false, s, i, o, e) := by
  unfold read_cursor_take.f; rw [sees_err s i o e b he]; rfl
theorem fail_err (s : ByteArray) (i o e b : Int) (he : e ≠ 0) : read_cursor_fail.f s i o e b = some (s, i, o, e) := by
  unfold read_cursor_fail.f; rw [if_neg he]
theorem fail_ok (s : ByteArray) (i o b : Int) : read_cursor_fail.f s i o 0 b = some (s, i, o, b) := by
  unfold read_cursor_fail.f; rw [if_pos rfl]
theorem must_err (s : ByteArray) (i o e b : Int) (he : e ≠ 0) : read_cursor_must.f s i o e b = some (s, i, o, e) := by
  unfold read_cursor_must.f; rw [take_err s i o e b he]; simp only [Option.bind_some]; rw [if_neg (by simp), fail_err s i o e 2 he]; rfl
theorem sees_nil {s : ByteArray} {i : Nat} (h : Suf s i []) (o b : Int) : read_cursor_sees.f s i o 0 b = some (false, s, (i : Int), o, 0) := by
  have := h.nil
  unfold read_cursor_sees.f; rw [if_pos rfl, if_neg (by omega)]
theorem sees_cons {s : ByteArray} {i : Nat} {c : UInt8} {r : List UInt8} (h : Suf s i (c :: r)) (o b : Int) : read_cursor_sees.f s i o 0 b = some (((c.toNat : Int) == b), s, (i : Int), o, 0) := by
  have := h.lt
  unfold read_cursor_sees.f; rw [if_pos rfl, if_pos (by omega), if_pos (by omega), h.bt]
theorem take_nil {s : ByteArray} {i : Nat} (h : Suf s i []) (o b : Int) : read_cursor_take.f s i o 0 b = some (false, s, (i : Int), o, 0) := by
  unfold read_cursor_take.f; rw [sees_nil h]; rfl
theorem take_hit {s : ByteArray} {i : Nat} {c : UInt8} {r : List UInt8} (h : Suf s i (c :: r)) (hs : s.size ≤ 1000000) (o b : Int) (hc : (c.toNat : Int) = b) : read_cursor_take.f s i o 0 b = some (true, s, ((i + 1 : Nat) : Int), o, 0) := by
  have := h.lt
  unfold read_cursor_take.f; rw [sees_cons h]; simp only [Option.bind_some]; rw [if_pos (by simpa using hc), succ_val i (by omega)]
theorem take_miss {s : ByteArray} {i : Nat} {c : UInt8} {r : List UInt8} (h : Suf s i (c :: r)) (o b : Int) (hc : ¬ (c.toNat : Int) = b) : read_cursor_take.f s i o 0 b = some (false, s, (i : Int), o, 0) := by
  unfold read_cursor_take.f; rw [sees_cons h]; simp only [Option.bind_some]; rw [if_neg (by simpa using hc)]
theorem must_nil {s : ByteArray} {i : Nat} (h : Suf s i []) (o b : Int) : read_cursor_must.f s i o 0 b = some (s, (i : Int), o, 2) := by
  unfold read_cursor_must.f; rw [take_nil h]; simp only [Option.bind_some]; rw [if_neg (by simp), fail_ok]; rfl
theorem must_hit {s : ByteArray} {i : Nat} {c : UInt8} {r : List UInt8} (h : Suf s i (c :: r)) (hs : s.size ≤ 1000000) (o b : Int) (hc : (c.toNat : Int) = b) : read_cursor_must.f s i o 0 b = some (s, ((i + 1 : Nat) : Int), o, 0) := by
  unfold read_cursor_must.f; rw [take_hit h hs o b hc]; simp only [Option.bind_some]; rw [if_pos trivial]
theorem must_miss {s : ByteArray} {i : Nat} {c : UInt8} {r : List UInt8} (h : Suf s i (c :: r)) (o b : Int) (hc : ¬ (c.toNat : Int) = b) : read_cursor_must.f s i o 0 b = some (s, (i : Int), o, 2) := by
  unfold read_cursor_must.f; rw [take_miss h o b hc]; simp only [Option.bind_some]; rw [if_neg (by simp), fail_ok]; rfl
/-- What the name's loop ends with, at a place j behind its begin i. -/
theorem name_end (s : ByteArray) (i j o e : Nat) (h0 : i ≤ j) (h1 : j ≤ s.size) : (if (j : Int) = i then ((read_cursor_fail.f s j o e 2).bind fun b => (if (0 : Int) ≤ i then (if (i : Int) ≤ b.2.1 then (if b.2.1 ≤ (b.1.size : Int) then (some (b.1.extract (i : Int).toNat (b.2.1 : Int).toNat, b.1, b.2.1, b.2.2.1, b.2.2.2)) else (none)) else (none)) else (none))) else (if (0 : Int) ≤ i then (if (i : Int) ≤ j then (if (j : Int) ≤ (s.size : Int) then (some (s.extract (i : Int).toNat (j : Int).toNat, s, (j : Int), (o : Int), (e : Int))) else (none)) else (none)) else (none))) = some (s.extract i j, s, (j : Int), (o : Int), if j = i ∧ e = 0 then 2 else (e : Int)) := by
  by_cases hj : j = i
  · subst hj
    rw [if_pos rfl]
    by_cases he : e = 0
    · subst he
      rw [show ((0 : Nat) : Int) = 0 from rfl, fail_ok]
      simp only [Option.bind_some]
      rw [if_pos (by omega), if_pos (by omega), if_pos (by omega), if_pos ⟨trivial, trivial⟩]
      simp
    · rw [fail_err _ _ _ _ _ (by omega)]
      simp only [Option.bind_some]
      rw [if_pos (by omega), if_pos (by omega), if_pos (by omega), if_neg (by simp [he])]
      simp
  · rw [if_neg (by omega), if_pos (by omega), if_pos (by omega), if_pos (by omega), if_neg (by simp [hj])]
    simp
theorem name_err (s : ByteArray) (i o e : Nat) (h1 : i ≤ s.size) (he : e ≠ 0) (k : Nat) : read_cursor_name.f (k + 1) s i o e = some (s.extract i i, s, (i : Int), (o : Int), (e : Int)) := by
  unfold read_cursor_name.f
  rw [read_cursor_name.l0, if_neg (by omega)]
  have := name_end s i i o e (Nat.le_refl _) h1
  rw [if_neg (show ¬ (i = i ∧ e = 0) from fun h => he h.2)] at this
  exact this
theorem name_ok (s : ByteArray) (hs : s.size ≤ 1000000) (i o : Nat) : ∀ (d m k : Nat) (r : List UInt8), d = 8 - m → m ≤ 8 → d < k → Suf s (i + m) r →
    read_cursor_name.l0 k i s ((i + m : Nat) : Int) o 0 = some (s.extract i (i + m + ((r.take (8 - m)).takeWhile isLow).length), s, ((i + m + ((r.take (8 - m)).takeWhile isLow).length : Nat) : Int), (o : Int), if m + ((r.take (8 - m)).takeWhile isLow).length = 0 then 2 else 0) := by
  intro d
  induction d with
  | zero =>
    intro m k r hd hm hk hS
    obtain ⟨k, rfl⟩ : ∃ q, k = q + 1 := ⟨k - 1, by omega⟩
    have hle := hS.le
    have hm8 : m = 8 := by omega
    subst hm8
    have hw : wrap64 (((i + 8 : Nat) : Int) - i) = 8 := by rw [w64 (by omega) (by omega)]; omega
    rw [read_cursor_name.l0, if_pos rfl, hw, if_neg (by omega)]
    have := name_end s i (i + 8) o 0 (by omega) hle
    rw [if_neg (show ¬ (i + 8 = i ∧ 0 = 0) by omega)] at this
    simpa using this
  | succ d ih =>
    intro m k r hd hm hk hS
    obtain ⟨k, rfl⟩ : ∃ q, k = q + 1 := ⟨k - 1, by omega⟩
    have hle := hS.le
    have hw : wrap64 (((i + m : Nat) : Int) - i) = (m : Int) := by rw [w64 (by omega) (by omega)]; omega
    have hend := name_end s i (i + m) o 0 (by omega) hle
    have hif : (if i + m = i ∧ (0 : Nat) = 0 then (2 : Int) else ((0 : Nat) : Int)) = if m = 0 then 2 else 0 := by by_cases h : m = 0 <;> simp [h]
    rw [hif] at hend
    have h00 : ((0 : Nat) : Int) = 0 := rfl
    rw [h00] at hend
    rw [read_cursor_name.l0, if_pos rfl, hw, if_pos (by omega)]
    cases r with
    | nil =>
      have := hS.nil
      rw [if_neg (show ¬ ((i + m : Nat) : Int) < s.size by omega), List.take_nil, List.takeWhile_nil, List.length_nil, Nat.add_zero, Nat.add_zero]
      exact hend
    | cons c r =>
      have hlt := hS.lt
      rw [if_pos (by omega), if_pos (by omega), hS.bt]
      rw [show 8 - m = (7 - m) + 1 from by omega, List.take_succ_cons, List.takeWhile_cons]
      by_cases h1 : 97 ≤ c.toNat
      · rw [if_pos (by omega)]
        by_cases h2 : c.toNat ≤ 122
        · rw [if_pos (by omega), if_pos (by simp [isLow, h1, h2]), succ_val _ (by omega)]
          have := ih (m + 1) k r (by omega) (by omega) (by omega) (by rw [← Nat.add_assoc]; exact hS.tail)
          rw [show ((i + m + 1 : Nat) : Int) = ((i + (m + 1) : Nat) : Int) from by omega, this]
          rw [show 8 - (m + 1) = 7 - m from by omega, List.length_cons]
          generalize ((r.take (7 - m)).takeWhile isLow).length = q
          rw [show i + (m + 1) + q = i + m + (q + 1) from by omega, if_neg (by omega), if_neg (by omega)]
        · rw [if_neg (show ¬ (c.toNat : Int) ≤ 122 by omega), if_neg (show ¬ isLow c = true by simp [isLow, h2]), List.length_nil, Nat.add_zero, Nat.add_zero]
          exact hend
      · rw [if_neg (show ¬ (c.toNat : Int) ≥ 97 by omega), if_neg (show ¬ isLow c = true by simp [isLow, h1]), List.length_nil, Nat.add_zero, Nat.add_zero]
        exact hend

theorem spanL_le (l : List UInt8) : spanL l ≤ l.length := by
  unfold spanL
  split
  · rename_i hh
    have h3 := (List.takeWhile_sublist isDig (l := l.tail)).length_le
    cases l with
    | nil => cases hh
    | cons c r => simp only [List.tail_cons, List.length_cons] at h3 ⊢; omega
  · exact (List.takeWhile_sublist isDig).length_le
theorem Suf.span {s : ByteArray} {i : Nat} {r : List UInt8} (h : Suf s i r) : spanAt s i = (spanL r : Nat) := by
  have hle := h.le
  have hl := h.len
  unfold spanAt
  rw [if_neg (by omega)]
  by_cases h1 : (i : Int) ≥ s.size
  · rw [if_pos h1]
    have : r = [] := List.eq_nil_of_length_eq_zero (by omega)
    rw [this]; rfl
  · rw [if_neg h1, Int.toNat_natCast, h.eq]
theorem number_ok {s : ByteArray} {i : Nat} {r : List UInt8} (h : Suf s i r) (hs : s.size ≤ 1000000) (o : Int) :
    read_cursor_number.f s i o 0 = if (getV (r.take (spanL r))).2 = 0 then some ((getV (r.take (spanL r))).1, s, ((i + spanL r : Nat) : Int), o, 0) else some (0, s, (i : Int), o, (getV (r.take (spanL r))).2) := by
  have hle := h.le
  unfold read_cursor_number.f numAt
  rw [if_pos rfl, if_pos ⟨by omega, by omega, by omega⟩, h.span, Int.toNat_natCast, Int.toNat_natCast, h.eq]
  rfl
theorem number_err (s : ByteArray) (i o e : Int) (he : e ≠ 0) : read_cursor_number.f s i o e = some (0, s, i, o, e) := by
  unfold read_cursor_number.f; rw [if_neg he]
/-- What an operation's call tells. -/
def Told (s : ByteArray) (o : Nat) (out : Option (Bool × ByteArray × Int × ByteArray × Int × Int × Int)) : Res S61 → Prop
  | .ok x rest => rest.length ≤ s.size ∧ s.data.toList.drop (s.size - rest.length) = rest ∧ out = some (x.f0, x.f1, x.f2, s, ((s.size - rest.length : Nat) : Int), ((o + 1 : Nat) : Int), 0)
  | .no rest e => rest.length ≤ s.size ∧ (e = 2 ∨ e = 3) ∧ ∃ w a b, out = some (w, a, b, s, ((s.size - rest.length : Nat) : Int), ((o + 1 : Nat) : Int), e)
theorem Suf.at {s : ByteArray} {i : Nat} {r : List UInt8} (h : Suf s i r) : s.size - r.length = i ∧ r.length ≤ s.size := by
  have hl := h.len
  have := h.le
  omega
theorem getV_err (l : List UInt8) : (getV l).2 = 0 ∨ (getV l).2 = 2 ∨ (getV l).2 = 3 := by
  unfold getV
  split
  · exact .inr (.inl rfl)
  split
  · exact .inr (.inl rfl)
  split
  · exact .inr (.inl rfl)
  · cases getLoop (if isNeg l = true then 9223372036854775808 else 9223372036854775807) 0 (cutD l) with
    | none => exact .inr (.inr rfl)
    | some n => exact .inl rfl
theorem op_err (s : ByteArray) (i o e : Nat) (h1 : i ≤ s.size) (he : e ≠ 0) (ho : o ≤ 1000000) (w : Bool) (n : ByteArray) (v : Int) (k : Nat) :
    read_cursor_op.j2 (k + 2) s i o e w n v = some (w, s.extract i i, 0, s, (i : Int), ((o + 1 : Nat) : Int), (e : Int)) := by
  have he' : (e : Int) ≠ 0 := by omega
  rw [read_cursor_op.j2, must_err _ _ _ _ _ he']
  simp only [Option.bind_some]
  rw [name_err s i o e h1 he]
  simp only [Option.bind_some]
  rw [must_err _ _ _ _ _ he']
  simp only [Option.bind_some]
  rw [number_err _ _ _ _ he']
  simp only [Option.bind_some]
  rw [succ_val o (by omega)]
theorem op_tail {s : ByteArray} {i : Nat} {r : List UInt8} (h : Suf s i r) (hs : s.size ≤ 1000000) (o : Nat) (ho : o ≤ 1000000) (w : Bool) (n : ByteArray) (v : Int) (k : Nat) (hk : 20 ≤ k) :
    Told s o (read_cursor_op.j2 k s i o 0 w n v) (colonL w r) := by
  obtain ⟨k, rfl⟩ : ∃ q, k = q + 2 := ⟨k - 2, by omega⟩
  have herr : ∀ (j : Nat) (q : List UInt8), Suf s j q → (read_cursor_op.j2 (k + 2) s i o 0 w n v = (read_cursor_name.f (k + 1) s j o 2).bind fun bt164 => ((read_cursor_must.f bt164.2.1 bt164.2.2.1 bt164.2.2.2.1 bt164.2.2.2.2 61).bind fun bt169 => ((read_cursor_number.f bt169.1 bt169.2.1 bt169.2.2.1 bt169.2.2.2).bind fun bt173 => (some (w, bt164.1, bt173.1, bt173.2.1, bt173.2.2.1, wrap64 (bt173.2.2.2.1 + 1), bt173.2.2.2.2))))) → Told s o (read_cursor_op.j2 (k + 2) s i o 0 w n v) (.no q 2) := by
    intro j q hq e
    rw [e]
    have := name_err s j o 2 hq.le (by omega) k
    rw [show ((2 : Nat) : Int) = 2 from rfl] at this
    rw [this]
    simp only [Option.bind_some]
    rw [must_err _ _ _ _ _ (by omega)]
    simp only [Option.bind_some]
    rw [number_err _ _ _ _ (by omega)]
    simp only [Option.bind_some]
    rw [succ_val o (by omega)]
    exact ⟨hq.at.2, .inl rfl, _, _, _, by rw [hq.at.1]⟩
  cases r with
  | nil =>
    refine herr i [] h ?_
    rw [read_cursor_op.j2, must_nil h]
    rfl
  | cons c r =>
    show Told s o _ (if c = 58 then nameL w r else .no (c :: r) 2)
    by_cases hc : c = 58
    · rw [if_pos hc]
      have h2 := h.tail
      have hle2 := h2.le
      have hnm := name_ok s hs (i + 1) o 8 0 (k + 1) r rfl (by omega) (by omega) h2
      rw [Nat.add_zero, Nat.zero_add] at hnm
      have hnl : ((r.take (8 - 0)).takeWhile isLow).length = nameLen r := rfl
      rw [hnl] at hnm
      have hnle : nameLen r ≤ r.length := Nat.le_trans (List.takeWhile_sublist isLow).length_le (List.length_take_le' _ _)
      have e1 : read_cursor_op.j2 (k + 2) s i o 0 w n v = (read_cursor_name.f (k + 1) s ((i + 1 : Nat) : Int) o 0).bind fun bt164 => ((read_cursor_must.f bt164.2.1 bt164.2.2.1 bt164.2.2.2.1 bt164.2.2.2.2 61).bind fun bt169 => ((read_cursor_number.f bt169.1 bt169.2.1 bt169.2.2.1 bt169.2.2.2).bind fun bt173 => (some (w, bt164.1, bt173.1, bt173.2.1, bt173.2.2.1, wrap64 (bt173.2.2.2.1 + 1), bt173.2.2.2.2)))) := by
        rw [read_cursor_op.j2, must_hit h hs o 58 ((@toNat_eq c 58 (by omega)).2 hc)]
        rfl
      rw [e1]
      unfold read_cursor_name.f
      rw [hnm]
      simp only [Option.bind_some]
      unfold nameL
      by_cases hn : nameLen r = 0
      · rw [if_pos hn, if_pos hn]
        rw [must_err _ _ _ _ _ (by omega)]
        simp only [Option.bind_some]
        rw [number_err _ _ _ _ (by omega)]
        simp only [Option.bind_some]
        rw [succ_val o (by omega)]
        exact ⟨h2.at.2, .inl rfl, _, _, _, by rw [h2.at.1, hn]⟩
      · rw [if_neg hn, if_neg hn]
        have h3 := h2.drop (nameLen r) hnle
        have hnm2 : s.extract (i + 1) (i + 1 + nameLen r) = mkB (r.take (nameLen r)) := by
          apply ba_ext
          rw [Lib.extract_data, h2.eq, show i + 1 + nameLen r - (i + 1) = nameLen r from by omega]
          rfl
        cases hr3 : r.drop (nameLen r) with
        | nil =>
          rw [hr3] at h3
          rw [must_nil h3]
          simp only [Option.bind_some]
          rw [number_err _ _ _ _ (by omega)]
          simp only [Option.bind_some]
          rw [succ_val o (by omega)]
          exact ⟨h3.at.2, .inl rfl, _, _, _, by rw [h3.at.1]⟩
        | cons c2 r2 =>
          rw [hr3] at h3
          show Told s o _ (if c2 = 61 then valL w (mkB (r.take (nameLen r))) r2 else .no (c2 :: r2) 2)
          by_cases hc2 : c2 = 61
          · have h4 := h3.tail
            rw [must_hit h3 hs o 61 ((@toNat_eq c2 61 (by omega)).2 hc2)]
            simp only [Option.bind_some]
            rw [number_ok h4 hs, if_pos hc2]
            unfold valL
            by_cases hv : (getV (r2.take (spanL r2))).2 = 0
            · rw [if_pos hv, if_pos hv]
              simp only [Option.bind_some]
              have h5 := h4.drop (spanL r2) (spanL_le r2)
              rw [succ_val o (by omega)]
              refine ⟨h5.at.2, by rw [h5.at.1]; exact h5.eq, ?_⟩
              rw [h5.at.1, hnm2]
            · rw [if_neg hv, if_neg hv]
              simp only [Option.bind_some]
              rw [succ_val o (by omega)]
              exact ⟨h4.at.2, (getV_err _).resolve_left hv, _, _, _, by rw [h4.at.1]⟩
          · rw [must_miss h3 o 61 (fun h => hc2 ((@toNat_eq c2 61 (by omega)).1 h)), if_neg hc2]
            simp only [Option.bind_some]
            rw [number_err _ _ _ _ (by omega)]
            simp only [Option.bind_some]
            rw [succ_val o (by omega)]
            exact ⟨h3.at.2, .inl rfl, _, _, _, by rw [h3.at.1]⟩
    · rw [if_neg hc]
      refine herr i (c :: r) h ?_
      rw [read_cursor_op.j2, must_miss h o 58 (fun h => hc ((@toNat_eq c 58 (by omega)).1 h))]
      rfl
end Go.Proofs.YtcabnjinfkjnjaaDoor.XH
