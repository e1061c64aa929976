/- THE PLAIN LAW ShowBack: the text of a history is read as that history; a text that is read is the text of what was read. -/
import Derived.Test.YtcabnjinfkjnjaaDoorPureReadM
import Derived.Test.YtcabnjinfkjnjaaDoorPureShowA
import Derived.Test.YtcabnjinfkjnjaaDoorXHx18
namespace Go.Proofs.YtcabnjinfkjnjaaDoor.XH
open Go.RowKit Go.Proofs.YtcabnjinfkjnjaaDoorW.PrintWords Go.Proofs.YtcabnjinfkjnjaaDoorW.PrintLast Go.Proofs.YtcabnjinfkjnjaaDoor.X
set_option linter.unusedVariables false

/-! ### an operation's text, and its reading -/
def goodNm (v : ByteArray) : Prop := 1 ≤ v.size ∧ v.size ≤ 8 ∧ ∀ a ∈ v.data.toList, isLow a = true
def inInt (x : S61) : Prop := -9223372036854775808 ≤ x.f2 ∧ x.f2 ≤ 9223372036854775807
/-- What may stand behind an operation: a blank or a line's end. -/
def Sep (t : List UInt8) : Prop := ∃ c q, t = c :: q ∧ (c = 10 ∨ c = 32)
theorem Sep.dig {t : List UInt8} (h : Sep t) : t.takeWhile isDig = [] := by
  obtain ⟨c, q, rfl, rfl | rfl⟩ := h <;> rfl
theorem take_low (v t : List UInt8) (hv : ∀ a ∈ v, isLow a = true) (h8 : v.length ≤ 8) (ht : ∃ c q, t = c :: q ∧ isLow c = false) : ((v ++ t).take 8).takeWhile isLow = v := by
  obtain ⟨c, q, rfl, hc⟩ := ht
  rw [List.take_append, List.take_of_length_le h8, List.takeWhile_append_of_pos hv]
  cases hk : 8 - v.length with
  | zero => simp
  | succ m => rw [List.take_succ_cons, List.takeWhile_cons, hc]; simp
theorem nameL_text (w : Bool) (v : ByteArray) (hv : goodNm v) (n : Int) (hn : -9223372036854775808 ≤ n ∧ n ≤ 9223372036854775807) (t : List UInt8) (ht : Sep t) : nameL w (v.data.toList ++ (61 :: (Lib.itoa n ++ t))) = .ok ⟨w, v, n⟩ t := by
  obtain ⟨h1, h2, h3⟩ := hv
  rw [size_list] at h1 h2
  have hw : ((v.data.toList ++ (61 :: (Lib.itoa n ++ t))).take 8).takeWhile isLow = v.data.toList := take_low _ _ h3 h2 ⟨61, _, rfl, rfl⟩
  have hl : nameLen (v.data.toList ++ (61 :: (Lib.itoa n ++ t))) = v.data.toList.length := by unfold nameLen; rw [hw]
  unfold nameL
  rw [hl, if_neg (by omega), List.drop_left, List.take_left]
  simp only [↓reduceIte]
  unfold valL
  rw [span_itoa n t ht.dig, List.take_left, get_itoa n hn.1 hn.2, List.drop_left]
  rfl
theorem opBytes_cons (x : S61) : ∃ a, (a = 119 ∨ a = 114) ∧ opBytes x = a :: 58 :: (x.f1.data.toList ++ (61 :: Lib.itoa x.f2)) ∧ (if a = 119 then true else false) = x.f0 := by
  rw [opBytes_eq]
  cases h : x.f0 with
  | true => exact ⟨119, .inl rfl, by simp, rfl⟩
  | false => exact ⟨114, .inr rfl, by simp, rfl⟩
theorem oneL_text (x : S61) (hx : goodNm x.f1) (hn : inInt x) (t : List UInt8) (ht : Sep t) : oneL (opBytes x ++ t) = .ok x t := by
  rw [opBytes_eq]
  have h := nameL_text x.f0 x.f1 hx x.f2 hn t ht
  have e : (x.f1.data.toList ++ (61 :: Lib.itoa x.f2)) ++ t = x.f1.data.toList ++ (61 :: (Lib.itoa x.f2 ++ t)) := by simp
  cases hf : x.f0 with
  | true =>
    rw [hf] at h
    show oneL (119 :: 58 :: ((x.f1.data.toList ++ (61 :: Lib.itoa x.f2)) ++ t)) = _
    rw [e]
    show nameL true _ = _
    rw [h]
    show Res.ok (⟨true, x.f1, x.f2⟩ : S61) t = _
    rw [← hf]
  | false =>
    rw [hf] at h
    show oneL (114 :: 58 :: ((x.f1.data.toList ++ (61 :: Lib.itoa x.f2)) ++ t)) = _
    rw [e]
    show nameL false _ = _
    rw [h]
    show Res.ok (⟨false, x.f1, x.f2⟩ : S61) t = _
    rw [← hf]
theorem opL_text (n : Nat) (hn : n ≠ 4096) (x : S61) (hx : goodNm x.f1) (hi : inInt x) (t : List UInt8) (ht : Sep t) : opL n (opBytes x ++ t) = .ok x t := by
  unfold opL
  rw [if_neg (fun h => hn h.1)]
  exact oneL_text x hx hi t ht

/-! ### an operation that was read: its text -/
theorem valL_back {w nm l x q} (h : valL w nm l = .ok x q) : l = Lib.itoa x.f2 ++ q ∧ x.f0 = w ∧ x.f1 = nm ∧ inInt x := by
  unfold valL at h
  split at h
  · rename_i hz
    obtain ⟨rfl, rfl⟩ := Res.ok.inj h
    refine ⟨?_, rfl, rfl, get_in _⟩
    show l = Lib.itoa (getV (l.take (spanL l))).1 ++ l.drop (spanL l)
    rw [itoa_get _ hz, List.take_append_drop]
  · cases h
theorem nameL_back {w l x q} (h : nameL w l = .ok x q) : l = x.f1.data.toList ++ (61 :: (Lib.itoa x.f2 ++ q)) ∧ x.f0 = w ∧ goodNm x.f1 ∧ inInt x := by
  unfold nameL at h
  split at h
  · cases h
  · rename_i h0
    split at h
    · cases h
    · rename_i c r hr
      split at h
      · rename_i hc
        subst hc
        obtain ⟨e1, e2, e3, e4⟩ := valL_back h
        have hp : (l.take 8).takeWhile isLow <+: l := List.IsPrefix.trans (List.takeWhile_prefix _) (List.take_prefix _ _)
        have ht : l.take (nameLen l) = (l.take 8).takeWhile isLow := (List.prefix_iff_eq_take.1 hp).symm
        have hn : x.f1.data.toList = l.take (nameLen l) := by rw [e3]; simp [mkB]
        refine ⟨?_, e2, ?_, e4⟩
        · rw [hn, ← e1, ← hr, List.take_append_drop]
        · have hl8 : nameLen l ≤ 8 := by
            unfold nameLen
            exact Nat.le_trans (List.IsPrefix.length_le (List.takeWhile_prefix _)) (by rw [List.length_take]; omega)
          have hs : x.f1.size = nameLen l := by rw [size_list, hn, ht]; rfl
          refine ⟨by omega, by omega, fun a ha => ?_⟩
          rw [hn, ht] at ha
          exact List.all_eq_true.1 (List.all_takeWhile (p := isLow) (l := l.take 8)) a ha
      · cases h
theorem oneL_back {l x q} (h : oneL l = .ok x q) : l = opBytes x ++ q ∧ goodNm x.f1 ∧ inInt x := by
  have go : ∀ w, ∀ r, colonL w r = .ok x q → ∃ r', r = 58 :: r' ∧ nameL w r' = .ok x q := by
    intro w r h
    cases r with
    | nil => cases h
    | cons c r =>
      have h : (if c = 58 then nameL w r else Res.no (c :: r) 2) = .ok x q := h
      split at h
      · rename_i hc
        exact ⟨r, by rw [hc], h⟩
      · cases h
  cases l with
  | nil => cases h
  | cons c r =>
    have h : (if c = 119 then colonL true r else if c = 114 then colonL false r else Res.no (c :: r) 2) = .ok x q := h
    rw [opBytes_eq]
    split at h
    · rename_i hc
      obtain ⟨r', rfl, h'⟩ := go _ _ h
      obtain ⟨e1, e2, e3, e4⟩ := nameL_back h'
      refine ⟨?_, e3, e4⟩
      rw [e2, hc, e1]
      simp
    · split at h
      · rename_i hc
        obtain ⟨r', rfl, h'⟩ := go _ _ h
        obtain ⟨e1, e2, e3, e4⟩ := nameL_back h'
        refine ⟨?_, e3, e4⟩
        rw [e2, hc, e1]
        simp
      · cases h
theorem opL_back {n l x q} (h : opL n l = .ok x q) : l = opBytes x ++ q ∧ goodNm x.f1 ∧ inInt x := by
  unfold opL at h
  split at h
  · cases h
  · exact oneL_back h

/-! ### lines and texts as lists -/
def lnT : List S61 → List UInt8
  | [] => []
  | x :: xs => opBytes x ++ xs.flatMap (fun y => 32 :: opBytes y)
theorem lnT_snoc (l : List S61) (x : S61) : lnT (l ++ [x]) = lnT l ++ ((if l = [] then [] else [32]) ++ opBytes x) := by
  cases l with
  | nil => simp [lnT]
  | cons a l => simp [lnT, List.flatMap_append]
def txT (h : List (List S61)) : List UInt8 := h.flatMap (fun l => lnT l ++ [10])
theorem txT_snoc (h : List (List S61)) (l : List S61) : txT (h ++ [l]) = txT h ++ (lnT l ++ [10]) := by simp [txT, List.flatMap_append]
theorem lineTo_take (l : List S61) : ∀ j, j ≤ l.length → lineTo l j = lnT (l.take j)
  | 0, _ => rfl
  | j + 1, h => by
    have e : l.take (j + 1) = l.take j ++ [l[j]] := by rw [List.take_add_one, List.getElem?_eq_getElem (by omega)]; rfl
    rw [e, lnT_snoc]
    show lineTo l j ++ _ = _
    rw [lineTo_take l j (by omega), rd_T61n l (by omega)]
    have hz : (l.take j = []) ↔ j = 0 := by
      rw [List.take_eq_nil_iff]
      constructor
      · rintro (h1 | h1)
        · exact h1
        · subst h1
          simp at h
      · exact .inl
    by_cases h0 : j = 0
    · rw [if_pos h0, if_pos (hz.2 h0)]
    · rw [if_neg h0, if_neg (fun q => h0 (hz.1 q))]
theorem textTo_take (h : List (List S61)) : ∀ k, k ≤ h.length → textTo h k = txT (h.take k)
  | 0, _ => rfl
  | k + 1, hk => by
    have e : h.take (k + 1) = h.take k ++ [h[k]] := by rw [List.take_add_one, List.getElem?_eq_getElem (by omega)]; rfl
    rw [e, txT_snoc]
    show textTo h k ++ _ = _
    rw [textTo_take h k (by omega), L4n h (by omega), lineTo_take _ _ (Nat.le_refl _), List.take_length]
theorem textTo_all (h : List (List S61)) : textTo h h.length = txT h := by rw [textTo_take h _ (Nat.le_refl _), List.take_length]

/-! ### a text that was read is the text of what was read -/
theorem runs_back {out l n r R} (hR : Runs out l n r R) : ∀ (h : List (List S61)) (m : Nat), R = .ok h m → txT h = txT out ++ (lnT l ++ r) := by
  induction hR with
  | done out n => intro h m e; cases e; simp [lnT]
  | cut => intro h m e; cases e
  | line out l n r R h ih =>
    intro hh m e
    rw [ih hh m e, txT_snoc]
    simp [lnT]
  | bad => intro h m e; cases e
  | op0 out n c r x q R h1 ho h ih =>
    intro hh m e
    rw [ih hh m e, (opL_back ho).1]
    simp [lnT]
  | no0 => intro h m e; cases e
  | op1 out l n r x q R hl ho h ih =>
    intro hh m e
    rw [ih hh m e, (opL_back ho).1, lnT_snoc, if_neg hl]
    simp
  | no1 => intro h m e; cases e
theorem runs_sound {out l n r R} (hR : Runs out l n r R) : ∀ (h : List (List S61)) (m : Nat), R = .ok h m → (∀ o ∈ out.flatten ++ l, goodNm o.f1 ∧ inInt o) → (out.flatten ++ l).length = n → n ≤ 4096 → (∀ o ∈ h.flatten, goodNm o.f1 ∧ inInt o) ∧ h.flatten.length = m ∧ m ≤ 4096 := by
  have n4096 : ∀ {n l x q}, opL n l = .ok x q → n ≠ 4096 := by
    intro n l x q ho hn
    unfold opL at ho
    split at ho
    · cases ho
    · rename_i hc
      apply hc
      refine ⟨hn, ?_⟩
      cases l with
      | nil => cases ho
      | cons c r =>
        have ho : (if c = 119 then colonL true r else if c = 114 then colonL false r else Res.no (c :: r) 2) = .ok x q := ho
        split at ho
        · rename_i h; rw [h]; exact .inl rfl
        · split at ho
          · rename_i h; rw [h]; exact .inr rfl
          · cases ho
  induction hR with
  | done out n => intro h m e h1 h2 h3; cases e; rw [List.append_nil] at h1 h2; exact ⟨h1, h2, h3⟩
  | cut => intro h m e; cases e
  | line out l n r R h ih =>
    intro hh m e h1 h2 h3
    have e1 : (out ++ [l]).flatten ++ [] = out.flatten ++ l := by simp
    exact ih hh m e (by rw [e1]; exact h1) (by rw [e1]; exact h2) h3
  | bad => intro h m e; cases e
  | op0 out n c r x q R h1 ho h ih =>
    intro hh m e h2 h3 h4
    refine ih hh m e ?_ (by rw [← h3]; simp) (by have := n4096 ho; omega)
    intro o hm
    rcases List.mem_append.1 hm with hm | hm
    · exact h2 o (List.mem_append.2 (.inl hm))
    · rw [List.mem_singleton.1 hm]; exact (opL_back ho).2
  | no0 => intro h m e; cases e
  | op1 out l n r x q R hl ho h ih =>
    intro hh m e h2 h3 h4
    refine ih hh m e ?_ (by rw [← h3]; simp; omega) (by have := n4096 ho; omega)
    intro o hm
    rcases List.mem_append.1 hm with hm | hm
    · exact h2 o (List.mem_append.2 (.inl hm))
    · rcases List.mem_append.1 hm with hm | hm
      · exact h2 o (List.mem_append.2 (.inr hm))
      · rw [List.mem_singleton.1 hm]; exact (opL_back ho).2
  | no1 => intro h m e; cases e

/-! ### a history's text is read as that history -/
theorem runs_line (r : List UInt8) (R : TRes) : ∀ (xs : List S61) (out : List (List S61)) (l : List S61) (n : Nat), (∀ o ∈ xs, goodNm o.f1 ∧ inInt o) → n + xs.length ≤ 4096 → Runs (out ++ [l ++ xs]) [] (n + xs.length) r R →
    Runs out l n ((match l with | [] => lnT xs | _ :: _ => xs.flatMap (fun y => 32 :: opBytes y)) ++ 10 :: r) R := by
  intro xs
  induction xs with
  | nil =>
    intro out l n hg hn h
    rw [List.append_nil] at h
    cases l with
    | nil => exact .line _ _ _ _ _ h
    | cons a l => exact .line _ _ _ _ _ h
  | cons x xs ih =>
    intro out l n hg hn h
    have hx := hg x (.head _)
    simp only [List.length_cons] at hn h
    have hsep : Sep (xs.flatMap (fun y => 32 :: opBytes y) ++ 10 :: r) := by
      cases xs with
      | nil => exact ⟨10, r, rfl, .inl rfl⟩
      | cons y ys => exact ⟨32, opBytes y ++ ys.flatMap (fun y => 32 :: opBytes y) ++ 10 :: r, by simp, .inr rfl⟩
    have ho := opL_text n (by omega) x hx.1 hx.2 _ hsep
    have hrest : Runs out (l ++ [x]) (n + 1) (xs.flatMap (fun y => 32 :: opBytes y) ++ 10 :: r) R := by
      have := ih out (l ++ [x]) (n + 1) (fun o hm => hg o (.tail _ hm)) (by omega) (by
        rw [List.append_assoc]
        have e : n + 1 + xs.length = n + (xs.length + 1) := by omega
        rw [e]
        exact h)
      cases hl : l ++ [x] with
      | nil => simp at hl
      | cons a b => rw [hl] at this; exact this
    cases l with
    | nil =>
      obtain ⟨a, ha, hb, _⟩ := opBytes_cons x
      have e : (lnT (x :: xs)) ++ 10 :: r = opBytes x ++ (xs.flatMap (fun y => 32 :: opBytes y) ++ 10 :: r) := by simp [lnT]
      show Runs out [] n (lnT (x :: xs) ++ 10 :: r) R
      rw [e]
      rw [hb] at ho ⊢
      exact .op0 out n _ _ x _ R (by rcases ha with rfl | rfl <;> decide) ho hrest
    | cons b l =>
      have e : ((x :: xs).flatMap (fun y => 32 :: opBytes y)) ++ 10 :: r = 32 :: (opBytes x ++ (xs.flatMap (fun y => 32 :: opBytes y) ++ 10 :: r)) := by simp
      show Runs out (b :: l) n (((x :: xs).flatMap (fun y => 32 :: opBytes y)) ++ 10 :: r) R
      rw [e]
      exact .op1 out (b :: l) n _ x _ R (by simp) ho hrest
theorem runs_text : ∀ (h : List (List S61)) (out : List (List S61)) (n : Nat), (∀ o ∈ h.flatten, goodNm o.f1 ∧ inInt o) → n + h.flatten.length ≤ 4096 → Runs out [] n (txT h) (.ok (out ++ h) (n + h.flatten.length)) := by
  intro h
  induction h with
  | nil =>
    intro out n _ _
    rw [List.append_nil]
    exact .done out n
  | cons l h ih =>
    intro out n hg hn
    have e : txT (l :: h) = lnT l ++ 10 :: txT h := by simp [txT]
    rw [List.flatten_cons, List.length_append] at hn ⊢
    rw [e]
    have h1 := ih (out ++ [l]) (n + l.length) (fun o hm => hg o (by rw [List.flatten_cons]; exact List.mem_append.2 (.inr hm))) (by omega)
    rw [List.append_assoc] at h1
    have e2 : n + l.length + h.flatten.length = n + (l.length + h.flatten.length) := by omega
    rw [e2] at h1
    exact runs_line (txT h) _ l out [] n (fun o hm => hg o (by rw [List.flatten_cons]; exact List.mem_append.2 (.inl hm))) (by omega) h1

/-! ### how long a text is -/
theorem opBytes_short (x : S61) (hx : goodNm x.f1) (hi : inInt x) : (opBytes x).length ≤ 32 := by
  obtain ⟨a, _, hb, _⟩ := opBytes_cons x
  rw [hb]
  have h1 := hx.2.1
  rw [size_list] at h1
  have h2 := Lib.itoa_length_le x.f2 hi.1 hi.2
  simp only [List.length_cons, List.length_append]
  omega
theorem lnT_len (l : List S61) (hg : ∀ o ∈ l, goodNm o.f1 ∧ inInt o) : (lnT l).length ≤ 33 * l.length := by
  have hb : ∀ (xs : List S61), (∀ o ∈ xs, goodNm o.f1 ∧ inInt o) → (xs.flatMap (fun y => 32 :: opBytes y)).length ≤ 33 * xs.length := by
    intro xs
    induction xs with
    | nil => intro _; exact Nat.le_refl _
    | cons x xs ih =>
      intro h
      have h1 := opBytes_short x (h x (.head _)).1 (h x (.head _)).2
      have h2 := ih (fun o hm => h o (.tail _ hm))
      rw [List.flatMap_cons, List.length_append, List.length_cons, List.length_cons]
      omega
  cases l with
  | nil => exact Nat.le_refl _
  | cons x xs =>
    have h1 := opBytes_short x (hg x (.head _)).1 (hg x (.head _)).2
    have h2 := hb xs (fun o hm => hg o (.tail _ hm))
    show (opBytes x ++ _).length ≤ _
    rw [List.length_append, List.length_cons]
    omega
theorem txT_len : ∀ (h : List (List S61)), (∀ o ∈ h.flatten, goodNm o.f1 ∧ inInt o) → (txT h).length ≤ 33 * h.flatten.length + h.length
  | [], _ => Nat.le_refl _
  | l :: h, hg => by
    have h1 := lnT_len l (fun o hm => hg o (by rw [List.flatten_cons]; exact List.mem_append.2 (.inl hm)))
    have h2 := txT_len h (fun o hm => hg o (by rw [List.flatten_cons]; exact List.mem_append.2 (.inr hm)))
    have e : txT (l :: h) = (lnT l ++ [10]) ++ txT h := by simp [txT]
    rw [e, List.flatten_cons, List.length_append, List.length_append, List.length_append, List.length_cons]
    simp only [List.length_cons, List.length_nil]
    omega

/-! ### the law -/
theorem named_good (v : ByteArray) : namedV v = true ↔ goodNm v := by
  rw [named_name]
  unfold nameV goodNm
  rw [Bool.and_eq_true, Bool.and_eq_true, decide_eq_true_eq, decide_eq_true_eq, List.all_eq_true]
  exact ⟨fun ⟨a, b, c⟩ => ⟨b, c, a⟩, fun ⟨a, b, c⟩ => ⟨c, a, b⟩⟩
theorem right_iff (h : List (List S61)) : rightV h = true ↔ h.flatten.length ≤ 4096 ∧ ∀ o ∈ h.flatten, goodNm o.f1 := by
  unfold rightV
  rw [Bool.and_eq_true, decide_eq_true_eq, Bool.not_eq_true', List.any_eq_false]
  refine and_congr Iff.rfl (forall_congr' fun o => forall_congr' fun _ => ?_)
  rw [← named_good]
  cases namedV o.f1 <;> simp
theorem ev_ref (s : ByteArray) (hs : s.size ≤ 1000000) {R} (hR : Runs [] [] 0 s.data.toList R) : Ev (fun k => eyewitnessref07_Text.f k s) (ansT s R) := by
  obtain ⟨k, hk⟩ := ref_text s hs hR
  exact Ev.of (fun k => eyewitnessref07_Text.mono s k) hk
theorem ev_back_awake (h : List (List S61)) (s : ByteArray) : Ev (fun k => eyewitnesslaw08_ShowBack.j0 k h s true) true := by
  refine Ev.step (f := fun _ => some true) (fun k => ?_) (Ev.now _)
  rw [eyewitnesslaw08_ShowBack.j0, if_pos rfl, awake08]
  rfl
theorem read_few {s : ByteArray} (hs : s.size ≤ 1000) {h : List (List S61)} {m : Nat} (hR : Runs [] [] 0 s.data.toList (.ok h m)) : textOk h = true ∧ textV h = (s, 0) := by
  have hl : s.data.toList.length = s.size := (size_list s).symm
  have h1 := runs_sound hR h m rfl (fun o hm => by simp at hm) rfl (by omega)
  have h2 := runs_size hR s.size h m rfl (fun x hx => by cases hx) (by simp only [List.length_nil]; omega)
  have h3 := runs_back hR h m rfl
  have hlen := h2.2
  simp only [List.length_nil] at hlen
  constructor
  · unfold textOk
    rw [Bool.and_eq_true, Bool.and_eq_true, decide_eq_true_eq, decide_eq_true_eq, List.all_eq_true]
    exact ⟨by omega, by omega, fun x hx => (okOp_iff x).2 ⟨by have := (h1.1 x hx).1.2.1; omega, (h1.1 x hx).2⟩⟩
  · have hr : rightV h = true := (right_iff h).2 ⟨by omega, fun o ho => (h1.1 o ho).1⟩
    unfold textV
    rw [if_pos hr, textTo_all, h3]
    show (mk ([] ++ ([] ++ s.data.toList)), (0 : Int)) = _
    rw [List.nil_append, List.nil_append, mk_data]
theorem ev_back1 (s : ByteArray) (hs : s.size ≤ 1000) : Ev (fun k => eyewitnesslaw08_ShowBack.j1 k s false) true := by
  have hl : s.data.toList.length = s.size := (size_list s).symm
  obtain ⟨R, hR⟩ := runs_ex (s.data.toList.length + 1) s.data.toList [] [] 0 (by omega)
  have he := ev_ref s (by omega) hR
  have hf : ∀ k, eyewitnesslaw08_ShowBack.j1 (k + 1) s false = (eyewitnessref07_Text.f k s).bind fun bt475 => ((show_Text.f bt475.1).bind fun bt480 => ((eyewitnesslaw08_awake.f).bind fun t482 => (if t482 = true then (if bt475.2.2 = 0 then (if bt480.2 = 0 then (some (bt480.1.toList == s.toList)) else (some false)) else (some true)) else (some false)))) := by
    intro k
    rw [eyewitnesslaw08_ShowBack.j1, if_neg Bool.false_ne_true]
  refine Ev.step hf (Ev.bind he ?_)
  cases R with
  | ok h m =>
    obtain ⟨h1, h2⟩ := read_few hs hR
    have hsh : show_Text.f h = some (s, 0) := by unfold show_Text.f; rw [if_pos h1, h2]
    refine Ev.congr (f := fun _ => some true) (fun k => ?_) (Ev.now _)
    simp only [ansT, hsh, awake08, Option.bind_some, if_true, beq_self_eq_true]
  | no q e =>
    have hsh : show_Text.f [] = some (textV []) := by unfold show_Text.f; rw [if_pos (by decide)]
    have he2 : textV [] = (⟨#[]⟩, 0) := by decide +kernel
    have hne : e ≠ 0 := by have := (runs_no hR q e rfl); omega
    refine Ev.congr (f := fun _ => some true) (fun k => ?_) (Ev.now _)
    simp only [ansT, hsh, he2, awake08, Option.bind_some, if_true, if_neg hne]
theorem ev_back0 (h : List (List S61)) (hf : FewOk h) (s : ByteArray) (hs : s.size ≤ 1000) : Ev (fun k => eyewitnesslaw08_ShowBack.j0 k h s false) true := by
  have hj : ∀ k, eyewitnesslaw08_ShowBack.j0 (k + 1) h s false = (eyewitnessref06_Right.f k h).bind fun t468 => (if (((textV h).2 == 0) != t468) = true then (some false) else ((eyewitnessref07_Text.f k (textV h).1).bind fun bt469 => (if (textV h).2 = 0 then (if bt469.2.2 = 0 then ((eyewitnessref06_Same.f k bt469.1 h).bind fun t474 => (eyewitnesslaw08_ShowBack.j1 k s (!t474))) else (eyewitnesslaw08_ShowBack.j1 k s true)) else (eyewitnesslaw08_ShowBack.j1 k s false)))) := by
    intro k
    rw [eyewitnesslaw08_ShowBack.j0, if_neg Bool.false_ne_true, show_of hf]
    rfl
  refine Ev.step hj (Ev.bind (ev_right h hf.ho) ?_)
  cases hr : rightV h with
  | true =>
    have hg := (right_iff h).1 hr
    have hops := hf.ops
    have htv : textV h = (mk (txT h), 0) := by unfold textV; rw [if_pos hr, textTo_all]; rfl
    have hlen : (mk (txT h)).size ≤ 1000000 := by
      rw [mk_size]
      have := txT_len h (fun o ho => ⟨hg.2 o ho, ((okOp_iff o).1 (hf.ok o ho)).2⟩)
      have := hf.few
      omega
    have hR : Runs [] [] 0 (mk (txT h)).data.toList (.ok h (0 + h.flatten.length)) := by
      rw [mk_list]
      have := runs_text h [] 0 (fun o ho => ⟨hg.2 o ho, ((okOp_iff o).1 (hf.ok o ho)).2⟩) (by omega)
      rwa [List.nil_append] at this
    rw [htv]
    refine Ev.neg (by simp) (Ev.bind (ev_ref _ hlen hR) (Ev.pos rfl (Ev.pos rfl ?_)))
    obtain ⟨k, hk⟩ := same_refl h 1000 (by omega) hf.few (fun x hx => by
      have := hf.ops
      have h2 : x.length ≤ h.flatten.length := by
        obtain ⟨i, hi, rfl⟩ := List.mem_iff_getElem.1 hx
        have := row_le h hi
        rwa [L4n h hi] at this
      omega)
    exact Ev.bind (Ev.of (fun k => eyewitnessref06_Same.mono h h k) hk) (ev_back1 s hs)
  | false =>
    have htv : textV h = (⟨#[]⟩, 1) := by unfold textV; rw [hr]; rfl
    rw [htv]
    exact Ev.neg (by decide) (Ev.bind (ev_ref ⟨#[]⟩ (by decide) (.done [] 0)) (Ev.neg (by decide) (ev_back1 s hs)))
theorem showBack_pure (h : List (List S61)) (ho : HistOk h) (s : ByteArray) : ∃ k, eyewitnesslaw08_ShowBack.f k h s = some true := by
  refine Ev.rounds ?_
  unfold eyewitnesslaw08_ShowBack.f
  refine Ev.bind (ev_small h ho 60) ?_
  cases hs : smallV h 60 with
  | false => exact Ev.neg Bool.false_ne_true (ev_back_awake h s)
  | true =>
    refine Ev.pos rfl ?_
    by_cases hv : (s.size : Int) > 1000
    · rw [decide_eq_true hv]
      exact ev_back_awake h s
    · rw [decide_eq_false hv]
      exact ev_back0 h (few_of ho 60 (by omega) hs) s (by omega)
theorem showBack_walk (A0 : Option Addr) (c0 : Nat) (l0 : List (List S61)) (ho : HistOk l0) (s : ByteArray) (w : World) (hT : Tabs w) (hr0 : Kd.C (Kd.slice 61 k61) w A0 l0.length l0) (hc0 : l0.length ≤ c0) :
    Calls Tryd.prog 17 #[.slice A0 l0.length c0, .string s] w fun e w' => e = .returned (.bool true) ∧ Below w.heap.size w w' := by
  obtain ⟨k, hk⟩ := showBack_pure l0 ho s
  exact eyewitnesslaw08_ShowBack.calls k A0 c0 l0 s true w hr0 hc0 hT hk
end Go.Proofs.YtcabnjinfkjnjaaDoor.XH
