/- THE PLAIN LAWS OF READ, second part: a whole text, as one relation, and that read.Text and the reference's Text both follow it. -/
import Derived.Test.YtcabnjinfkjnjaaDoorPureRead
namespace Go.Proofs.YtcabnjinfkjnjaaDoor.XH
open Go.RowKit Go.Proofs.YtcabnjinfkjnjaaDoorW.PrintWords Go.Proofs.YtcabnjinfkjnjaaDoorW.PrintLast Go.Proofs.YtcabnjinfkjnjaaDoor.X
set_option linter.unusedVariables false

theorem op_j1_err (s : ByteArray) (i o e : Nat) (h1 : i ≤ s.size) (he : e ≠ 0) (ho : o ≤ 1000000) (k : Nat) :
    read_cursor_op.j1 (k + 3) s i o e = some (false, s.extract i i, 0, s, (i : Int), ((o + 1 : Nat) : Int), (e : Int)) := by
  have he' : (e : Int) ≠ 0 := by omega
  rw [read_cursor_op.j1, take_err _ _ _ _ _ he']
  simp only [Option.bind_some]
  rw [if_neg (by simp), must_err _ _ _ _ _ he']
  simp only [Option.bind_some]
  exact op_err s i o e h1 he ho _ _ _ k
theorem op_j1 {s : ByteArray} {i : Nat} {r : List UInt8} (h : Suf s i r) (hs : s.size ≤ 1000000) (o : Nat) (ho : o ≤ 1000000) (k : Nat) (hk : 24 ≤ k) :
    Told s o (read_cursor_op.j1 k s i o 0) (oneL r) := by
  obtain ⟨k, rfl⟩ : ∃ q, k = q + 3 := ⟨k - 3, by omega⟩
  have h2 := op_err s i o 2 h.le (by omega) ho false ⟨#[]⟩ 0 k
  rw [show ((2 : Nat) : Int) = 2 from rfl] at h2
  cases r with
  | nil =>
    rw [read_cursor_op.j1, take_nil h]
    simp only [Option.bind_some]
    rw [if_neg (by simp), must_nil h]
    simp only [Option.bind_some]
    rw [h2]
    exact ⟨h.at.2, .inl rfl, _, _, _, by rw [h.at.1]⟩
  | cons c r =>
    show Told s o _ (if c = 119 then colonL true r else if c = 114 then colonL false r else .no (c :: r) 2)
    by_cases h1 : c = 119
    · rw [if_pos h1, read_cursor_op.j1, take_hit h hs o 119 ((@toNat_eq c 119 (by omega)).2 h1)]
      simp only [Option.bind_some]
      rw [if_pos trivial]
      exact op_tail h.tail hs o ho true _ 0 _ (by omega)
    · rw [if_neg h1, read_cursor_op.j1, take_miss h o 119 (fun hh => h1 ((@toNat_eq c 119 (by omega)).1 hh))]
      simp only [Option.bind_some]
      rw [if_neg (by simp)]
      by_cases h3 : c = 114
      · rw [if_pos h3, must_hit h hs o 114 ((@toNat_eq c 114 (by omega)).2 h3)]
        simp only [Option.bind_some]
        exact op_tail h.tail hs o ho false _ 0 _ (by omega)
      · rw [if_neg h3, must_miss h o 114 (fun hh => h3 ((@toNat_eq c 114 (by omega)).1 hh))]
        simp only [Option.bind_some]
        rw [h2]
        exact ⟨h.at.2, .inl rfl, _, _, _, by rw [h.at.1]⟩
theorem op_ok {s : ByteArray} {i : Nat} {r : List UInt8} (h : Suf s i r) (hs : s.size ≤ 1000000) (o : Nat) (ho : o ≤ 1000000) (k : Nat) (hk : 30 ≤ k) :
    Told s o (read_cursor_op.f k s i o 0) (opL o r) := by
  obtain ⟨k, rfl⟩ : ∃ q, k = q + 4 := ⟨k - 4, by omega⟩
  have hj := op_j1 h hs o ho (k + 3) (by omega)
  have h3 := op_j1_err s i o 3 h.le (by omega) ho k
  rw [show ((3 : Nat) : Int) = 3 from rfl] at h3
  have hf : read_cursor_op.j0 (k + 4) false s i o 0 = read_cursor_op.j1 (k + 3) s i o 0 := by rw [read_cursor_op.j0]; rfl
  have ht : read_cursor_op.j0 (k + 4) true s i o 0 = some (false, s.extract i i, 0, s, (i : Int), ((o + 1 : Nat) : Int), 3) := by
    rw [read_cursor_op.j0, if_pos rfl, fail_ok]
    simp only [Option.bind_some]
    exact h3
  unfold read_cursor_op.f opL
  by_cases h4 : o = 4096
  · rw [if_pos (by omega)]
    cases r with
    | nil =>
      rw [sees_nil h]
      simp only [Option.bind_some]
      rw [if_neg (by simp), sees_nil h]
      simp only [Option.bind_some]
      rw [if_neg (by simp), hf]
      exact hj
    | cons c r =>
      rw [sees_cons h]
      simp only [Option.bind_some]
      by_cases h1 : c = 119
      · rw [if_pos (show ((c.toNat : Int) == 119) = true by rw [h1]; rfl), if_pos ⟨h4, .inl (by rw [h1]; rfl)⟩]
        rw [ht]
        exact ⟨h.at.2, .inr rfl, _, _, _, by rw [h.at.1]⟩
      · have hn : ¬ ((c.toNat : Int) == 119) = true := by simpa using fun hh => h1 ((@toNat_eq c 119 (by omega)).1 hh)
        rw [if_neg hn, sees_cons h]
        simp only [Option.bind_some]
        by_cases h5 : c = 114
        · rw [show ((c.toNat : Int) == 114) = true by rw [h5]; rfl, if_pos ⟨h4, .inr (by rw [h5]; rfl)⟩, ht]
          exact ⟨h.at.2, .inr rfl, _, _, _, by rw [h.at.1]⟩
        · have hn2 : ((c.toNat : Int) == 114) = false := by simpa using fun hh => h5 ((@toNat_eq c 114 (by omega)).1 hh)
          rw [hn2, if_neg (by simp [h1, h5]), hf]
          exact hj
  · rw [if_neg (by omega), if_neg (fun hh => h4 hh.1), hf]
    exact hj

/-! ### a whole text -/
inductive TRes where
  | ok (h : List (List S61)) (n : Nat)
  | no (rest : List UInt8) (e : Int)
inductive Runs : List (List S61) → List S61 → Nat → List UInt8 → TRes → Prop where
  | done (out n) : Runs out [] n [] (.ok out n)
  | cut (out l n) (hl : l ≠ []) : Runs out l n [] (.no [] 2)
  | line (out l n r R) (h : Runs (out ++ [l]) [] n r R) : Runs out l n (10 :: r) R
  | bad (out l n c r) (hl : l ≠ []) (h1 : c ≠ 10) (h2 : c ≠ 32) : Runs out l n (c :: r) (.no (c :: r) 2)
  | op0 (out n c r x q R) (h1 : c ≠ 10) (ho : opL n (c :: r) = .ok x q) (h : Runs out [x] (n + 1) q R) : Runs out [] n (c :: r) R
  | no0 (out n c r q e) (h1 : c ≠ 10) (ho : opL n (c :: r) = .no q e) : Runs out [] n (c :: r) (.no q e)
  | op1 (out l n r x q R) (hl : l ≠ []) (ho : opL n r = .ok x q) (h : Runs out (l ++ [x]) (n + 1) q R) : Runs out l n (32 :: r) R
  | no1 (out l n r q e) (hl : l ≠ []) (ho : opL n r = .no q e) : Runs out l n (32 :: r) (.no q e)
theorem valL_len {w nm l x q} (h : valL w nm l = .ok x q) : q.length ≤ l.length := by
  unfold valL at h
  split at h
  · cases h; rw [List.length_drop]; omega
  · cases h
theorem nameL_len {w l x q} (h : nameL w l = .ok x q) : q.length ≤ l.length := by
  unfold nameL at h
  split at h
  · cases h
  · have hd : (l.drop (nameLen l)).length ≤ l.length := by rw [List.length_drop]; omega
    split at h
    · cases h
    · rename_i c r hr
      rw [hr] at hd
      split at h
      · have := valL_len h; simp only [List.length_cons] at hd; omega
      · cases h
theorem colonL_len {w l x q} (h : colonL w l = .ok x q) : q.length ≤ l.length := by
  cases l with
  | nil => cases h
  | cons c r =>
    simp only [colonL] at h
    split at h
    · have := nameL_len h; simp only [List.length_cons]; omega
    · cases h
theorem opL_len {n l x q} (h : opL n l = .ok x q) : q.length < l.length := by
  unfold opL at h
  split at h
  · cases h
  · cases l with
    | nil => cases h
    | cons c r =>
      simp only [oneL] at h
      split at h
      · have := colonL_len h; simp only [List.length_cons]; omega
      · split at h
        · have := colonL_len h; simp only [List.length_cons]; omega
        · cases h
theorem runs_ex : ∀ (m : Nat) (r : List UInt8) (out : List (List S61)) (l : List S61) (n : Nat), r.length < m → ∃ R, Runs out l n r R := by
  intro m
  induction m with
  | zero => intro r out l n h; omega
  | succ m ih =>
    intro r out l n h
    cases r with
    | nil =>
      by_cases hl : l = []
      · subst hl; exact ⟨_, .done out n⟩
      · exact ⟨_, .cut out l n hl⟩
    | cons c r =>
      simp only [List.length_cons] at h
      by_cases hc : c = 10
      · subst hc
        obtain ⟨R, hR⟩ := ih r (out ++ [l]) [] n (by omega)
        exact ⟨R, .line out l n r R hR⟩
      · by_cases hl : l = []
        · subst hl
          cases ho : opL n (c :: r) with
          | ok x q =>
            have := opL_len ho
            simp only [List.length_cons] at this
            obtain ⟨R, hR⟩ := ih q out [x] (n + 1) (by omega)
            exact ⟨R, .op0 out n c r x q R hc ho hR⟩
          | no q e => exact ⟨_, .no0 out n c r q e hc ho⟩
        · by_cases h2 : c = 32
          · subst h2
            cases ho : opL n r with
            | ok x q =>
              have := opL_len ho
              obtain ⟨R, hR⟩ := ih q out (l ++ [x]) (n + 1) (by omega)
              exact ⟨R, .op1 out l n r x q R hl ho hR⟩
            | no q e => exact ⟨_, .no1 out l n r q e hl ho⟩
          · exact ⟨_, .bad out l n c r hl hc h2⟩
def ansT (s : ByteArray) : TRes → List (List S61) × Int × Int
  | .ok h _ => (h, 0, 0)
  | .no rest e => ([], ((s.size - rest.length : Nat) : Int), e)

/-! ### read.Text follows it -/
theorem line_err (s : ByteArray) (i o e : Int) (he : e ≠ 0) (l : List S61) (k : Nat) : read_cursor_line.l0 (k + 1) l s i o e = some (l, s, i, o, e) := by
  rw [read_cursor_line.l0, take_err _ _ _ _ _ he]
  simp only [Option.bind_some]
  rw [if_neg (by simp), must_err _ _ _ _ _ he]
  rfl
theorem text_err (s : ByteArray) (i o e : Int) (he : e ≠ 0) (h : List (List S61)) (k : Nat) : read_Text.l0 s (k + 1) h s i o e = some ([], i, e) := by
  rw [read_Text.l0, if_neg he]; unfold read_Text.fin; rw [if_neg he]
theorem told_suf {s : ByteArray} {q : List UInt8} (h1 : q.length ≤ s.size) (h2 : s.data.toList.drop (s.size - q.length) = q) : Suf s (s.size - q.length) q := ⟨by omega, h2⟩
theorem text_runs (s : ByteArray) (hs : s.size ≤ 1000000) {out l n r R} (hR : Runs out l n r R) : ∀ i, Suf s i r → out.length + r.length ≤ 2000000 → l.length + r.length ≤ 2000000 → n + r.length ≤ 1000000 →
    (l = [] → ∀ k, 2 * r.length + 40 ≤ k → read_Text.l0 s k out s i n 0 = some (ansT s R)) ∧
    (l ≠ [] → ∃ b, (∀ k, 2 * r.length + 40 ≤ k → read_cursor_line.l0 k l s i n 0 = some b) ∧ ∀ k, 2 * r.length + 40 ≤ k → read_Text.l0 s k (out ++ [b.1]) b.2.1 b.2.2.1 b.2.2.2.1 b.2.2.2.2 = some (ansT s R)) := by
  induction hR with
  | done out n =>
    intro i hi h1 h2 h3
    refine ⟨fun _ k hk => ?_, fun h => absurd rfl h⟩
    obtain ⟨k, rfl⟩ : ∃ q, k = q + 1 := ⟨k - 1, by omega⟩
    have := hi.nil
    rw [read_Text.l0, if_pos rfl, if_neg (by omega)]
    rfl
  | cut out l n hl =>
    intro i hi h1 h2 h3
    refine ⟨fun h => absurd h hl, fun _ => ⟨(l, s, (i : Int), (n : Int), 2), fun k hk => ?_, fun k hk => ?_⟩⟩
    · obtain ⟨k, rfl⟩ : ∃ q, k = q + 1 := ⟨k - 1, by omega⟩
      rw [read_cursor_line.l0, take_nil hi]
      simp only [Option.bind_some]
      rw [if_neg (by simp), must_nil hi]
      rfl
    · obtain ⟨k, rfl⟩ : ∃ q, k = q + 1 := ⟨k - 1, by omega⟩
      have := hi.nil
      refine (text_err s i n 2 (by omega) (out ++ [l]) k).trans ?_
      simp only [ansT, List.length_nil, Nat.sub_zero, this]
  | line out l n r R h ih =>
    intro i hi h1 h2 h3
    simp only [List.length_cons] at h1 h2 h3 ⊢
    have hh := (ih (i + 1) hi.tail (by simp only [List.length_append, List.length_cons, List.length_nil]; omega) (by simp only [List.length_nil]; omega) (by omega)).1 rfl
    have hlt := hi.lt
    refine ⟨fun hl k hk => ?_, fun hl => ⟨(l, s, ((i + 1 : Nat) : Int), (n : Int), 0), fun k hk => ?_, fun k hk => hh k (by omega)⟩⟩
    · obtain ⟨k, rfl⟩ : ∃ q, k = q + 1 := ⟨k - 1, by omega⟩
      subst hl
      rw [read_Text.l0, if_pos rfl, if_pos (by omega)]
      unfold read_cursor_line.f
      rw [take_hit hi hs n 10 rfl]
      simp only [Option.bind_some]
      rw [if_pos trivial]
      simp only [Option.bind_some]
      rw [if_pos (by omega)]
      exact hh k (by omega)
    · obtain ⟨k, rfl⟩ : ∃ q, k = q + 1 := ⟨k - 1, by omega⟩
      rw [read_cursor_line.l0, take_miss hi n 32 (by decide)]
      simp only [Option.bind_some]
      rw [if_neg (by simp), must_hit hi hs n 10 rfl]
      rfl
  | bad out l n c r hl h1 h2 =>
    intro i hi h3 h4 h5
    refine ⟨fun h => absurd h hl, fun _ => ⟨(l, s, (i : Int), (n : Int), 2), fun k hk => ?_, fun k hk => ?_⟩⟩
    · obtain ⟨k, rfl⟩ : ∃ q, k = q + 1 := ⟨k - 1, by omega⟩
      rw [read_cursor_line.l0, take_miss hi n 32 (fun hh => h2 ((@toNat_eq c 32 (by omega)).1 hh))]
      simp only [Option.bind_some]
      rw [if_neg (by simp), must_miss hi n 10 (fun hh => h1 ((@toNat_eq c 10 (by omega)).1 hh))]
      rfl
    · obtain ⟨k, rfl⟩ : ∃ q, k = q + 1 := ⟨k - 1, by omega⟩
      refine (text_err s i n 2 (by omega) (out ++ [l]) k).trans ?_
      simp only [ansT, hi.at.1]
  | op0 out n c r x q R h1 ho h ih =>
    intro i hi h3 h4 h5
    refine ⟨fun _ k hk => ?_, fun h => absurd rfl h⟩
    obtain ⟨k, rfl⟩ : ∃ q, k = q + 1 := ⟨k - 1, by omega⟩
    have hlt := hi.lt
    have hq := opL_len ho
    simp only [List.length_cons] at h3 h4 h5 hk hq
    have ht := op_ok hi hs n (by omega) k (by omega)
    rw [ho] at ht
    obtain ⟨t1, t2, t3⟩ := ht
    obtain ⟨b, hb1, hb2⟩ := (ih _ (told_suf t1 t2) (by omega) (by simp only [List.length_cons, List.length_nil]; omega) (by omega)).2 (by simp)
    rw [read_Text.l0, if_pos rfl, if_pos (by omega)]
    unfold read_cursor_line.f
    rw [take_miss hi n 10 (fun hh => h1 ((@toNat_eq c 10 (by omega)).1 hh))]
    simp only [Option.bind_some]
    rw [if_neg (by simp), t3]
    simp only [Option.bind_some]
    rw [hb1 k (by omega)]
    simp only [Option.bind_some]
    rw [if_pos (by omega)]
    exact hb2 k (by omega)
  | no0 out n c r q e h1 ho =>
    intro i hi h3 h4 h5
    refine ⟨fun _ k hk => ?_, fun h => absurd rfl h⟩
    obtain ⟨k, rfl⟩ : ∃ q, k = q + 2 := ⟨k - 2, by omega⟩
    have hlt := hi.lt
    simp only [List.length_cons] at h3 h4 h5 hk
    have ht := op_ok hi hs n (by omega) (k + 1) (by omega)
    rw [ho] at ht
    obtain ⟨t1, t2, w, a, b, t3⟩ := ht
    rw [read_Text.l0, if_pos rfl, if_pos (by omega)]
    unfold read_cursor_line.f
    rw [take_miss hi n 10 (fun hh => h1 ((@toNat_eq c 10 (by omega)).1 hh))]
    simp only [Option.bind_some]
    rw [if_neg (by simp), t3]
    simp only [Option.bind_some]
    rw [line_err _ _ _ _ (by omega)]
    simp only [Option.bind_some]
    rw [if_pos (by omega), text_err _ _ _ _ (by omega)]
    rfl
  | op1 out l n r x q R hl ho h ih =>
    intro i hi h3 h4 h5
    have hq := opL_len ho
    simp only [List.length_cons] at h3 h4 h5
    have ht := fun k hk => op_ok hi.tail hs n (by omega) k hk
    rw [ho] at ht
    obtain ⟨t1, t2, _⟩ := ht 30 (Nat.le_refl _)
    obtain ⟨b, hb1, hb2⟩ := (ih _ (told_suf t1 t2) (by omega) (by simp only [List.length_append, List.length_cons, List.length_nil]; omega) (by omega)).2 (by simp)
    refine ⟨fun h => absurd h hl, fun _ => ⟨b, fun k hk => ?_, fun k hk => ?_⟩⟩
    · obtain ⟨k, rfl⟩ : ∃ q, k = q + 1 := ⟨k - 1, by omega⟩
      simp only [List.length_cons] at hk
      rw [read_cursor_line.l0, take_hit hi hs n 32 rfl]
      simp only [Option.bind_some]
      rw [if_pos trivial, (ht k (by omega)).2.2]
      simp only [Option.bind_some]
      rw [if_pos (by omega)]
      exact hb1 k (by omega)
    · simp only [List.length_cons] at hk
      exact hb2 k (by omega)
  | no1 out l n r q e hl ho =>
    intro i hi h3 h4 h5
    simp only [List.length_cons] at h3 h4 h5
    obtain ⟨w, a, b, t1, t2, t3⟩ : ∃ w a b, q.length ≤ s.size ∧ (e = 2 ∨ e = 3) ∧ ∀ k, 30 ≤ k → read_cursor_op.f k s ((i + 1 : Nat) : Int) n 0 = some (w, a, b, s, ((s.size - q.length : Nat) : Int), ((n + 1 : Nat) : Int), e) := by
      have ht := op_ok hi.tail hs n (by omega) 30 (by omega)
      rw [ho] at ht
      obtain ⟨t1, t2, w, a, b, t3⟩ := ht
      refine ⟨w, a, b, t1, t2, fun k hk => ?_⟩
      obtain ⟨d, rfl⟩ : ∃ d, k = 30 + d := ⟨k - 30, by omega⟩
      clear hk
      induction d with
      | zero => exact t3
      | succ d ihd => exact read_cursor_op.mono _ _ _ _ _ _ ihd
    refine ⟨fun h => absurd h hl, fun _ => ⟨(l ++ [⟨w, a, b⟩], s, ((s.size - q.length : Nat) : Int), ((n + 1 : Nat) : Int), e), fun k hk => ?_, fun k hk => ?_⟩⟩
    · obtain ⟨k, rfl⟩ : ∃ q, k = q + 2 := ⟨k - 2, by omega⟩
      simp only [List.length_cons] at hk
      rw [read_cursor_line.l0, take_hit hi hs n 32 rfl]
      simp only [Option.bind_some]
      rw [if_pos trivial, t3 (k + 1) (by omega)]
      simp only [Option.bind_some]
      rw [if_pos (by omega), line_err _ _ _ _ (by omega)]
    · obtain ⟨k, rfl⟩ : ∃ q, k = q + 1 := ⟨k - 1, by omega⟩
      exact text_err s ((s.size - q.length : Nat) : Int) ((n + 1 : Nat) : Int) e (by omega) _ k
theorem runs_cut {out l n r R} (h : Runs out l n r R) (hr : r = []) (hl : l ≠ []) : R = .no [] 2 := by
  cases h with
  | done => exact absurd rfl hl
  | cut => rfl
  | line => cases hr
  | bad => cases hr
  | op0 => cases hr
  | no0 => cases hr
  | op1 => cases hr
  | no1 => cases hr
end Go.Proofs.YtcabnjinfkjnjaaDoor.XH
