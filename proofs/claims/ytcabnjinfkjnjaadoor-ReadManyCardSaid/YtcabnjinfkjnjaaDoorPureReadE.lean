/- THE PLAIN LAWS OF READ, fifth part: what is read of a text, when its end is another one; the names of what is read. -/
import Derived.Test.YtcabnjinfkjnjaaDoorPureReadD
namespace Go.Proofs.YtcabnjinfkjnjaaDoor.XH
open Go.RowKit Go.Proofs.YtcabnjinfkjnjaaDoorW.PrintWords Go.Proofs.YtcabnjinfkjnjaaDoorW.PrintLast Go.Proofs.YtcabnjinfkjnjaaDoor.X
set_option linter.unusedVariables false

theorem while_eq (p : UInt8 → Bool) (l : List UInt8) : l.takeWhile p = l.take (l.takeWhile p).length := List.prefix_iff_eq_take.1 (List.takeWhile_prefix p)
theorem while_drop (p : UInt8 → Bool) (l : List UInt8) : l.drop (l.takeWhile p).length = l.dropWhile p := by
  have h : l.takeWhile p ++ l.dropWhile p = l := List.takeWhile_append_dropWhile
  conv => lhs; rw [← h]
  rw [List.takeWhile_append_of_pos (fun a ha => List.all_eq_true.1 (List.all_takeWhile (p := p) (l := l)) a ha)]
  have : ((l.dropWhile p).takeWhile p) = [] := by
    have h2 := List.head?_dropWhile_not p l
    cases hd : l.dropWhile p with
    | nil => rfl
    | cons c r =>
      rw [hd] at h2
      rw [List.takeWhile_cons, if_neg]
      simpa using h2
  rw [this, List.append_nil, List.drop_left]
theorem while_low (p : UInt8 → Bool) (l : List UInt8) : ∀ a ∈ l.takeWhile p, p a = true := fun a ha => List.all_eq_true.1 (List.all_takeWhile (p := p) (l := l)) a ha
theorem while_not (p : UInt8 → Bool) (l : List UInt8) {c : UInt8} {q : List UInt8} (h : l.drop (l.takeWhile p).length = c :: q) : p c = false := by
  rw [while_drop] at h
  have h2 := List.head?_dropWhile_not p l
  rw [h] at h2
  exact h2
/-- An end that begins as c :: q does, or none. -/
def Tail (c : UInt8) (t : List UInt8) : Prop := t = [] ∨ ∃ q, t = c :: q
theorem while_tail (p : UInt8 → Bool) (l : List UInt8) {c : UInt8} {q t : List UInt8} (h : l.drop (l.takeWhile p).length = c :: q) (ht : Tail c t) : (l.takeWhile p ++ t).takeWhile p = l.takeWhile p := by
  rw [List.takeWhile_append_of_pos (while_low p l)]
  have : t.takeWhile p = [] := by
    rcases ht with rfl | ⟨q', rfl⟩
    · rfl
    · rw [List.takeWhile_cons, if_neg]
      rw [while_not p l h]
      exact Bool.false_ne_true
  rw [this, List.append_nil]
theorem span_tail {l : List UInt8} {c : UInt8} {q t : List UInt8} (h : l.drop (spanL l) = c :: q) (ht : Tail c t) (hz : (getV (l.take (spanL l))).2 = 0) : spanL (l.take (spanL l) ++ t) = spanL l := by
  by_cases h45 : l.head? = some 45
  · have hs : spanL l = 1 + (l.tail.takeWhile isDig).length := if_pos h45
    cases l with
    | nil => cases h45
    | cons a r =>
      obtain rfl : a = 45 := Option.some.inj h45
      simp only [List.tail_cons] at hs
      rw [hs, show 1 + (r.takeWhile isDig).length = (r.takeWhile isDig).length + 1 from by omega, List.drop_succ_cons] at h
      have hw := while_tail isDig r h ht
      rw [hs, show 1 + (r.takeWhile isDig).length = (r.takeWhile isDig).length + 1 from by omega, List.take_succ_cons, ← while_eq, List.cons_append]
      unfold spanL
      rw [List.head?_cons, if_pos rfl, List.tail_cons, hw]
      omega
  · have hs : spanL l = (l.takeWhile isDig).length := if_neg h45
    rw [hs] at h hz ⊢
    rw [← while_eq] at hz ⊢
    have hw := while_tail isDig l h ht
    unfold spanL
    rw [if_neg, hw]
    cases hl : l.takeWhile isDig with
    | nil =>
      rw [hl] at hz
      exact absurd hz (by decide)
    | cons a r =>
      have : isDig a = true := while_low isDig l a (by rw [hl]; exact List.mem_cons_self ..)
      intro h
      obtain rfl : a = 45 := Option.some.inj h
      exact absurd this (by decide)
def goodN (v : ByteArray) : Prop := 1 ≤ v.size ∧ v.size ≤ 8 ∧ ∀ a ∈ v.data.toList, isLow a = true
theorem valL_cut {w nm l x c q} (h : valL w nm l = .ok x (c :: q)) : ∃ pre, l = pre ++ c :: q ∧ x.f1 = nm ∧ ∀ t, Tail c t → valL w nm (pre ++ t) = .ok x t := by
  unfold valL at h
  split at h
  · rename_i hz
    obtain ⟨rfl, hd⟩ := Res.ok.inj h
    refine ⟨l.take (spanL l), by rw [← hd, List.take_append_drop], rfl, fun t ht => ?_⟩
    have hsp := span_tail hd ht hz
    have hlen : (l.take (spanL l)).length = spanL l := by rw [List.length_take]; have := spanL_le l; omega
    have htk : (l.take (spanL l) ++ t).take (spanL l) = l.take (spanL l) := by
      conv => lhs; arg 1; rw [← hlen]
      rw [List.take_left]
    have hdr : (l.take (spanL l) ++ t).drop (spanL l) = t := by
      conv => lhs; arg 1; rw [← hlen]
      rw [List.drop_left]
    unfold valL
    rw [hsp, htk, hdr, if_pos hz]
  · cases h
theorem nameL_cut {w l x c q} (h : nameL w l = .ok x (c :: q)) : ∃ pre, l = pre ++ c :: q ∧ goodN x.f1 ∧ ∀ t, Tail c t → nameL w (pre ++ t) = .ok x t := by
  unfold nameL at h
  split at h
  · cases h
  · rename_i hn
    split at h
    · cases h
    · rename_i c2 r hd
      split at h
      · rename_i hc2
        subst hc2
        obtain ⟨pre, hr, hx, ht⟩ := valL_cut h
        have hj8 : nameLen l ≤ 8 := Nat.le_trans (List.takeWhile_sublist isLow).length_le (by rw [List.length_take]; omega)
        have hjl : nameLen l ≤ l.length := Nat.le_trans (List.takeWhile_sublist isLow).length_le (List.length_take_le' _ _)
        have hA : (l.take 8).takeWhile isLow = l.take (nameLen l) := by
          rw [while_eq isLow (l.take 8), List.take_take]
          congr 1
          unfold nameLen at hj8 ⊢
          omega
        have hlow : ∀ a ∈ l.take (nameLen l), isLow a = true := by rw [← hA]; exact while_low isLow _
        have hlen : (l.take (nameLen l)).length = nameLen l := by rw [List.length_take]; omega
        have hsame : ∀ r', nameLen (l.take (nameLen l) ++ 61 :: r') = nameLen l := by
          intro r'
          show (((l.take (nameLen l) ++ 61 :: r').take 8).takeWhile isLow).length = nameLen l
          rw [List.take_append, hlen, List.take_of_length_le (by omega), List.takeWhile_append_of_pos hlow]
          have : ((61 :: r').take (8 - nameLen l)).takeWhile isLow = [] := by
            cases 8 - nameLen l with
            | zero => rfl
            | succ m => rw [List.take_succ_cons, List.takeWhile_cons, if_neg (by decide)]
          rw [this, List.append_nil, hlen]
        refine ⟨l.take (nameLen l) ++ 61 :: pre, ?_, ?_, fun t htt => ?_⟩
        · conv => lhs; rw [← List.take_append_drop (nameLen l) l, hd, hr]
          simp
        · rw [hx]
          refine ⟨?_, ?_, hlow⟩
          · show 1 ≤ (l.take (nameLen l)).toArray.size
            rw [List.size_toArray, hlen]; omega
          · show (l.take (nameLen l)).toArray.size ≤ 8
            rw [List.size_toArray, hlen]; omega
        · have hs := hsame (pre ++ t)
          have htk : (l.take (nameLen l) ++ 61 :: (pre ++ t)).take (nameLen l) = l.take (nameLen l) := by
            conv => lhs; arg 1; rw [← hlen]
            rw [List.take_left]
          have hdr : (l.take (nameLen l) ++ 61 :: (pre ++ t)).drop (nameLen l) = 61 :: (pre ++ t) := by
            conv => lhs; arg 1; rw [← hlen]
            rw [List.drop_left]
          rw [List.append_assoc, List.cons_append]
          unfold nameL
          rw [hs, if_neg hn, hdr, htk]
          exact ht t htt
      · cases h
theorem colonL_cut {w l x c q} (h : colonL w l = .ok x (c :: q)) : ∃ pre, l = pre ++ c :: q ∧ goodN x.f1 ∧ ∀ t, Tail c t → colonL w (pre ++ t) = .ok x t := by
  cases l with
  | nil => cases h
  | cons a r =>
    simp only [colonL] at h
    split at h
    · rename_i ha
      subst ha
      obtain ⟨pre, hr, hx, ht⟩ := nameL_cut h
      refine ⟨58 :: pre, by rw [hr]; rfl, hx, fun t htt => ?_⟩
      show (if (58 : UInt8) = 58 then nameL w (pre ++ t) else .no (58 :: (pre ++ t)) 2) = _
      rw [if_pos rfl]
      exact ht t htt
    · cases h
theorem oneL_cut {l x c q} (h : oneL l = .ok x (c :: q)) : ∃ a pre, l = a :: (pre ++ c :: q) ∧ (a = 119 ∨ a = 114) ∧ goodN x.f1 ∧ ∀ t, Tail c t → oneL (a :: (pre ++ t)) = .ok x t := by
  cases l with
  | nil => cases h
  | cons a r =>
    simp only [oneL] at h
    split at h
    · rename_i ha
      obtain ⟨pre, hr, hx, ht⟩ := colonL_cut h
      refine ⟨a, pre, by rw [hr], .inl ha, hx, fun t htt => ?_⟩
      simp only [oneL]
      rw [if_pos ha]
      exact ht t htt
    · split at h
      · rename_i ha1 ha
        obtain ⟨pre, hr, hx, ht⟩ := colonL_cut h
        refine ⟨a, pre, by rw [hr], .inr ha, hx, fun t htt => ?_⟩
        simp only [oneL]
        rw [if_neg ha1, if_pos ha]
        exact ht t htt
      · cases h
theorem opL_cut {n l x c q} (h : opL n l = .ok x (c :: q)) : n ≠ 4096 ∧ ∃ a pre, l = a :: (pre ++ c :: q) ∧ (a = 119 ∨ a = 114) ∧ goodN x.f1 ∧ ∀ t, Tail c t → ∀ m, m ≠ 4096 → opL m (a :: (pre ++ t)) = .ok x t := by
  unfold opL at h
  split at h
  · cases h
  · rename_i hn
    obtain ⟨a, pre, hl, ha, hx, ht⟩ := oneL_cut h
    refine ⟨fun e => hn ⟨e, ?_⟩, a, pre, hl, ha, hx, fun t htt m hm => ?_⟩
    · rw [hl, List.head?_cons]
      exact ha.imp (fun e => by rw [e]) (fun e => by rw [e])
    · unfold opL
      rw [if_neg (fun h => hm h.1)]
      exact ht t htt
end Go.Proofs.YtcabnjinfkjnjaaDoor.XH
