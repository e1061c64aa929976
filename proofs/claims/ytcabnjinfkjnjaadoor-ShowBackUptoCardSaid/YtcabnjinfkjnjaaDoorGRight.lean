/- GIVEN CONTRACT (this session's): hist.Right (hist.named, slices.ContainsFunc, slices.IndexFunc), in the form in which the print states its own. -/
import Derived.Test.YtcabnjinfkjnjaaDoorGFlat
import Derived.Test.YtcabnjinfkjnjaaDoorGNum
namespace Go.Proofs.YtcabnjinfkjnjaaDoor.XH
open Go.RowKit Go.Proofs.YtcabnjinfkjnjaaDoorW.PrintWords Go.Proofs.YtcabnjinfkjnjaaDoorW.PrintLast Go.Proofs.YtcabnjinfkjnjaaDoorW.PrintMore Go.Proofs.YtcabnjinfkjnjaaDoor.X
set_option linter.unusedVariables false

def azL : List UInt8 := [97, 98, 99, 100, 101, 102, 103, 104, 105, 106, 107, 108, 109, 110, 111, 112, 113, 114, 115, 116, 117, 118, 119, 120, 121, 122]
theorem trimAz_any (s : ByteArray) (w : World) (hs : s.size ≤ 9223372036854775807) (q : List UInt8) (hq : Lib.trimS s.data.toList azL = q) :
    Calls Tryd.prog 77 #[.string s, .string ⟨#[97, 98, 99, 100, 101, 102, 103, 104, 105, 106, 107, 108, 109, 110, 111, 112, 113, 114, 115, 116, 117, 118, 119, 120, 121, 122]⟩] w fun e w' => e = .returned (.string ⟨q.toArray⟩) ∧ Below w.heap.size w w' := by
  rw [← hq]
  exact Tryd.strings_Trim_laid _ _ w hs (by decide) (ascii_of_all (by decide))
def namedV (s : ByteArray) : Bool := decide (0 < s.size) && (decide (s.size ≤ 8) && (Lib.trimS s.data.toList azL).isEmpty)
def BoolPost (b : Bool) (w : World) (e : Ending) (w' : World) : Prop := e = .returned (.bool b) ∧ Below w.heap.size w w'
theorem toList_nil {s : ByteArray} (h : s.size = 0) : s.toList = [] := by
  rw [bytesL]
  have : s.data.toList.length = 0 := by rw [Array.length_toList]; exact h
  exact List.length_eq_zero_iff.1 this
theorem toList_ne {s : ByteArray} (h : 0 < s.size) : s.toList.isEmpty = false := by
  rw [bytesL]
  have : s.data.toList.length ≠ 0 := by rw [Array.length_toList]; exact Nat.ne_of_gt h
  cases hl : s.data.toList with
  | nil => rw [hl] at this; exact absurd rfl this
  | cons a b => rfl
set_option maxHeartbeats 1000000 in
theorem named_empty (s : ByteArray) (w : World) (h : s.size = 0) : Calls Tryd.prog 69 #[.string s] w (BoolPost false w) := by
  have h1 := toList_nil h
  have h2 : (!s.toList.isEmpty) = false := by rw [h1]; rfl
  have h3 : (s.toList == []) = true := by rw [h1]; rfl
  have h4 : (s.toList != []) = false := by rw [h1]; rfl
  clear h
  go_enter Tryd.func69, Tryd.ntmps69
  go_wp2
  go_ret
  exact ⟨rfl, Below.refl _ _⟩
set_option maxHeartbeats 1000000 in
theorem named_long (s : ByteArray) (w : World) (h : 8 < s.size) : Calls Tryd.prog 69 #[.string s] w (BoolPost false w) := by
  have h2 : s.toList.isEmpty = false := toList_ne (by omega)
  have h3 : (s.toList == []) = false := by cases hl : s.toList with | nil => rw [hl] at h2; cases h2 | cons a b => rfl
  have h4 : (s.toList != []) = true := by cases hl : s.toList with | nil => rw [hl] at h2; cases h2 | cons a b => rfl
  have h5 : decide (s.size ≤ 8) = false := decide_eq_false (by omega)
  go_enter Tryd.func69, Tryd.ntmps69
  go_wp2
  go_ret
  exact ⟨rfl, Below.refl _ _⟩
set_option maxHeartbeats 1000000 in
theorem named_some (s : ByteArray) (w : World) (h0 : 0 < s.size) (h : s.size ≤ 8) : Calls Tryd.prog 69 #[.string s] w (BoolPost (Lib.trimS s.data.toList azL).isEmpty w) := by
  have h2 : s.toList.isEmpty = false := toList_ne (by omega)
  have h3 : (s.toList == []) = false := by cases hl : s.toList with | nil => rw [hl] at h2; cases h2 | cons a b => rfl
  have h4 : (s.toList != []) = true := by cases hl : s.toList with | nil => rw [hl] at h2; cases h2 | cons a b => rfl
  have h5 : decide (s.size ≤ 8) = true := decide_eq_true h
  cases hq : Lib.trimS s.data.toList azL with
  | nil =>
    have C := Lib.hid (fun W => trimAz_any s W (by omega) _ hq)
    clear hq
    go_enter Tryd.func69, Tryd.ntmps69
    go_wp2_with (go_at_call 77; refine (C.out _).mono ?_; rintro e w2 ⟨rfl, hB⟩; have HB := Lib.hid hB; clear hB)
    go_ret
    exact ⟨rfl, HB.out⟩
  | cons x y =>
    have C := Lib.hid (fun W => trimAz_any s W (by omega) _ hq)
    clear hq
    go_enter Tryd.func69, Tryd.ntmps69
    go_wp2_with (go_at_call 77; refine (C.out _).mono ?_; rintro e w2 ⟨rfl, hB⟩; have HB := Lib.hid hB; clear hB)
    go_ret
    exact ⟨rfl, HB.out⟩
theorem named_any (s : ByteArray) (w : World) : Calls Tryd.prog 69 #[.string s] w (BoolPost (namedV s) w) := by
  unfold namedV
  rcases Nat.eq_zero_or_pos s.size with h | h
  · rw [decide_eq_false (by omega), Bool.false_and]
    exact named_empty s w h
  · rw [decide_eq_true h, Bool.true_and]
    by_cases h8 : s.size ≤ 8
    · rw [decide_eq_true h8, Bool.true_and]
      exact named_some s w h h8
    · rw [decide_eq_false h8, Bool.false_and]
      exact named_long s w (by omega)
set_option maxHeartbeats 1000000 in
theorem unnamed_any (x : S61) (w : World) : Calls Tryd.prog 68 #[.agg #[.bool x.f0, .string x.f1, .int .i64 x.f2]] w (BoolPost (!namedV x.f1) w) := by
  have C := Lib.hid (fun W => named_any x.f1 W)
  go_enter Tryd.func68, Tryd.ntmps68
  go_wp2_with (go_at_call 69; refine (C.out _).mono ?_; rintro e w2 ⟨rfl, hB⟩; have HB := Lib.hid hB; clear hB)
  go_ret
  exact ⟨rfl, below_step (below_alloc (Below.refl _ _) _) HB.out⟩

theorem at_T61n (w : World) (A : Option Addr) (n : Nat) (xs : List S61) (h : Kd.C k61 w A n xs) (k : Nat) (h1 : k < n) : ∃ ad, A = some ad ∧ w.cell? (ad.add (k * 3)) = some (.bool (rd_T61 xs (k : Int)).f0) ∧ w.cell? ⟨(ad.add (k * 3)).block, (ad.add (k * 3)).off + 1, none⟩ = some (.string (rd_T61 xs (k : Int)).f1) ∧ w.cell? ⟨(ad.add (k * 3)).block, (ad.add (k * 3)).off + 2, none⟩ = some (.int .i64 (rd_T61 xs (k : Int)).f2) := by
  obtain ⟨ad, e, hc⟩ := at_T61 h (k : Int) (by omega) (by omega)
  rw [Int.toNat_natCast] at hc
  exact ⟨ad, e, hc⟩
def badAt (l : List S61) (k : Nat) : Bool := !namedV (rd_T61 l (k : Int)).f1
def idxV (l : List S61) : Int := match l.findIdx? (fun x => !namedV x.f1) with | some k => (k : Int) | none => -1
theorem rd_T61n (l : List S61) {k : Nat} (h : k < l.length) : rd_T61 l (k : Int) = l[k] := by
  unfold rd_T61
  rw [Int.toNat_natCast, List.getD_eq_getElem?_getD, List.getElem?_eq_getElem h]
  rfl
theorem idxV_some (l : List S61) (k : Nat) (h : k < l.length) (hb : badAt l k = true) (hn : ∀ j, j < k → badAt l j = false) : idxV l = (k : Int) := by
  unfold idxV
  have : l.findIdx? (fun x => !namedV x.f1) = some k := by
    rw [List.findIdx?_eq_some_iff_getElem]
    refine ⟨h, ?_, fun j hj => ?_⟩
    · have := hb; unfold badAt at this; rwa [rd_T61n l h] at this
    · have := hn j hj; unfold badAt at this; rw [rd_T61n l (by omega)] at this; simpa using this
  rw [this]
theorem idxV_none (l : List S61) (hn : ∀ j, j < l.length → badAt l j = false) : idxV l = -1 := by
  unfold idxV
  have : l.findIdx? (fun x => !namedV x.f1) = none := by
    rw [List.findIdx?_eq_none_iff]
    intro x hx
    obtain ⟨j, hj, rfl⟩ := List.mem_iff_getElem.1 hx
    have := hn j hj; unfold badAt at this; rwa [rd_T61n l hj] at this
  rw [this]
def IntPost (v : Int) (w : World) (e : Ending) (w' : World) : Prop := e = .returned (.int .i64 v) ∧ Below w.heap.size w w'
set_option maxRecDepth 100000 in
set_option maxHeartbeats 2000000 in
theorem indexFunc_any (A : Option Addr) (c : Nat) (l : List S61) (w : World) (hC : k61.C w A l.length l) : Calls Tryd.prog 91 #[.slice A l.length c, .func (.func 68) #[] #[]] w (IntPost (idxV l) w) := by
  have hbig : l.length ≤ 9223372036854775807 := hC.2.1
  have HC := Lib.hid hC
  clear hC
  go_enter Tryd.func91, Tryd.ntmps91
  go_wp2
  go_loopw [8] (fun i wr => ∃ k : Nat, k ≤ l.length ∧ i = .int .i64 k ∧ Aside0 (∀ j, j < k → badAt l j = false) ∧ Aside0 (Below w.heap.size w wr)) (fun i _ => l.length - (intOf i).toNat)
  case atStart => exact ⟨0, Nat.zero_le _, rfl, ⟨fun j hj => absurd hj (Nat.not_lt_zero _)⟩, ⟨Below.refl _ _⟩⟩
  case round =>
    obtain ⟨k, hk, rfl, HN, HB⟩ := hrel
    by_cases hlt : k < l.length
    · obtain ⟨ad, rfl, hc0, hc1, hc2⟩ := at_T61n _ A l.length l (Kd.C_below HC.out HB.out) k hlt
      have hbk := unnamed_any (rd_T61 l (k : Int)) wr
      cases hz : badAt l k with
      | true =>
        rw [show (!namedV (rd_T61 l (k : Int)).f1) = true from hz] at hbk
        have C := Lib.hid hbk
        have HZ := Lib.hid (idxV_some l k hlt hz HN.out)
        clear hbk hz
        go_wp2_with (go_at_call 68; refine C.out.mono ?_; rintro e w2 ⟨rfl, hB⟩; have HB2 := Lib.hid (below_step HB.out hB); clear hB)
        go_ret
        exact ⟨congrArg (fun v => Ending.returned (.int .i64 v)) HZ.out.symm, HB2.out⟩
      | false =>
        rw [show (!namedV (rd_T61 l (k : Int)).f1) = false from hz] at hbk
        have C := Lib.hid hbk
        have HZ := Lib.hid hz
        clear hbk hz
        go_wp2_with (go_at_call 68; refine C.out.mono ?_; rintro e w2 ⟨rfl, hB⟩; have HB2 := Lib.hid (below_step HB.out hB); clear hB)
        go_roundw
        case rel =>
          refine ⟨k + 1, by omega, by go_num, ⟨fun j hj => ?_⟩, ⟨HB2.out⟩⟩
          rcases Nat.lt_or_ge j k with h1 | h1
          · exact HN.out j h1
          · rw [show j = k by omega]; exact HZ.out
        case measure => simp [intOf]; omega
    · obtain rfl : k = l.length := by omega
      go_wp2
      go_ret
      exact ⟨congrArg (fun v => Ending.returned (.int .i64 v)) (idxV_none l HN.out).symm, HB.out⟩

theorem idxV_nonneg (l : List S61) : decide (0 ≤ idxV l) = l.any (fun x => !namedV x.f1) := by
  unfold idxV
  cases hq : l.findIdx? (fun x => !namedV x.f1) with
  | none =>
    rw [List.findIdx?_eq_none_iff] at hq
    rw [List.any_eq_false.2 (fun x hx => by rw [hq x hx]; exact Bool.false_ne_true)]
    rfl
  | some k =>
    obtain ⟨h, hb, _⟩ := List.findIdx?_eq_some_iff_getElem.1 hq
    rw [List.any_eq_true.2 ⟨_, List.getElem_mem h, hb⟩]
    exact decide_eq_true (Int.natCast_nonneg k)
set_option maxRecDepth 100000 in
set_option maxHeartbeats 1000000 in
theorem containsFunc_any (A : Option Addr) (c : Nat) (l : List S61) (w : World) (hC : k61.C w A l.length l) : Calls Tryd.prog 67 #[.slice A l.length c, .func (.func 68) #[] #[]] w (BoolPost (l.any fun x => !namedV x.f1) w) := by
  have C := Lib.hid (indexFunc_any A c l w hC)
  have HV := Lib.hid (idxV_nonneg l)
  clear hC
  go_enter Tryd.func67, Tryd.ntmps67
  go_wp2_with (go_at_call 91; refine C.out.mono ?_; rintro e w2 ⟨rfl, hB⟩; have HB2 := Lib.hid hB; clear hB)
  go_ret
  exact ⟨congrArg (fun b => Ending.returned (.bool b)) HV.out, HB2.out⟩
def rightV (h : List (List S61)) : Bool := decide (h.flatten.length ≤ 4096) && !(h.flatten.any fun x => !namedV x.f1)
set_option maxRecDepth 100000 in
set_option maxHeartbeats 1000000 in
theorem right_any (A0 : Option Addr) (c0 : Nat) (h : List (List S61)) (hb : h.flatten.length ≤ 4398046511104) (w : World) (hr0 : Kd.C (Kd.slice 61 k61) w A0 h.length h) : Calls Tryd.prog 35 #[.slice A0 h.length c0] w (BoolPost (rightV h) w) := by
  have CF := Lib.hid (flat_any A0 c0 h hb w hr0)
  unfold rightV
  clear hr0
  generalize h.flatten = l at hb CF
  by_cases hl : l.length ≤ 4096
  · have hd : decide (l.length ≤ 4096) = true := decide_eq_true hl
    rw [hd, Bool.true_and]
    go_enter Tryd.func35, Tryd.ntmps35
    go_wp2_with (first
      | (go_at_call 29; refine CF.out.mono ?_; rintro e w2 ⟨v, rfl, hR, hB⟩; obtain ⟨A1, c1, rfl, hle, hC1⟩ := Kd.R_reads hR; have HB := Lib.hid hB; have HC1 := Lib.hid hC1; clear hB hC1 hR)
      | (go_at_call 67; refine (containsFunc_any _ _ _ _ HC1.out).mono ?_; rintro e w3 ⟨rfl, hB⟩; have HB2 := Lib.hid (below_step HB.out hB); clear hB))
    go_ret
    exact ⟨rfl, HB2.out⟩
  · have hd : decide (l.length ≤ 4096) = false := decide_eq_false hl
    rw [hd, Bool.false_and]
    go_enter Tryd.func35, Tryd.ntmps35
    go_wp2_with (first
      | (go_at_call 29; refine CF.out.mono ?_; rintro e w2 ⟨v, rfl, hR, hB⟩; obtain ⟨A1, c1, rfl, hle, hC1⟩ := Kd.R_reads hR; have HB := Lib.hid hB; have HC1 := Lib.hid hC1; clear hB hC1 hR))
    go_ret
    exact ⟨rfl, HB.out⟩
def hist_Right.f (h : List (List S61)) : Option Bool := if h.flatten.length ≤ 4398046511104 then some (rightV h) else none
theorem hist_Right.calls (A0 : Option Addr) (c0 : Nat) (l0 : List (List S61)) (r : Bool) (w : World) (hr0 : Kd.C (Kd.slice 61 k61) w A0 l0.length l0) (hc0 : l0.length ≤ c0) (h : hist_Right.f l0 = some r) :
    Calls Tryd.prog 35 #[.slice A0 l0.length c0] w fun e w' => e = .returned (.bool r) ∧ Below w.heap.size w w' := by
  unfold hist_Right.f at h
  split at h
  · rename_i hb
    rw [← Option.some.inj h]
    exact right_any A0 c0 l0 hb w hr0
  · cases h
end Go.Proofs.YtcabnjinfkjnjaaDoor.XH
