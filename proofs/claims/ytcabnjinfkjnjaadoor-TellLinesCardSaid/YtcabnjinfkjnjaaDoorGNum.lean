/- GIVEN CONTRACTS (this session's): strings.Trim, strings.TrimLeft at an ASCII cutset, strconv.Itoa: each in the form in which the print states its own; the premise on the library's table. -/
import Derived.Test.YtcabnjinfkjnjaaDoorShelfNum
import Derived.Test.YtcabnjinfkjnjaaDoorWWords
import Derived.Test.YtcabnjinfkjnjaaDoorWMore
import Derived.Lib.SmallJoins
import Derived.Lib.AppendIntMem
import Derived.WalkKit
import Derived.OwnWalk
import Derived.Lib.ConvBytes
import Derived.Lib.Hide
import Derived.LoopTactic
namespace Go.Proofs.YtcabnjinfkjnjaaDoor.X
open Go.RowKit Go.Proofs.YtcabnjinfkjnjaaDoorW.PrintWords Go.Proofs.YtcabnjinfkjnjaaDoorW.PrintLast
set_option linter.unusedVariables false

/-- What the library's tables hold, where a call begins. -/
structure Tabs (w : World) : Prop where
  pow10 : Lib.TabIs Tryd.prog w "internal/strconv.uint64pow10" .u64 Lib.pow10Tab
theorem Tabs.below {w w' : World} (h : Tabs w) (hb : Below w.heap.size w w') : Tabs w' :=
  ⟨(Lib.tabBelow_of_tabIs h.pow10) w' hb⟩
theorem Tabs.drewN {w : World} (h : Tabs w) (n : Nat) : Tabs (w.drewN n) := h.below (pw_below_drewN (Below.refl _ _) n)
theorem Tabs.drew {w : World} (h : Tabs w) : Tabs w.drew := h.below (below_drew (Below.refl _ _))
theorem Tabs.alloc {w : World} (h : Tabs w) (o : Obj) : Tabs (w.alloc o) := h.below (below_alloc (Below.refl _ _) o)

theorem below_grow (w : World) (k : Nat) (os : Array Obj) : Below w.heap.size w (Sort.grow (w.drewN k) os) := Lib.below_grow _ w (Nat.le_refl _) k os

/-! ### strings_Trim -/
def cutOk (s : ByteArray) (c : ByteArray) : Prop := s.size ≤ 9223372036854775807 ∧ c.size < 4294967281 ∧ c.data.toList.all (fun b => decide (b.toNat < 128)) = true
instance (s c : ByteArray) : Decidable (cutOk s c) := by unfold cutOk; infer_instance
def strings_Trim.f (a0 a1 : ByteArray) : Option ByteArray := if cutOk a0 a1 then some ⟨(Lib.trimS a0.data.toList a1.data.toList).toArray⟩ else none
theorem strings_Trim.calls (a0 a1 : ByteArray) (r : ByteArray) (w : World) (h : strings_Trim.f a0 a1 = some r) :
    Calls Tryd.prog 77 #[.string a0, .string a1] w fun e w' => e = .returned (.string r) ∧ Below w.heap.size w w' := by
  unfold strings_Trim.f at h
  split at h
  · rename_i hc
    obtain rfl := Option.some.inj h
    exact Tryd.strings_Trim_laid a0 a1 w hc.1 hc.2.1 (ascii_of_all hc.2.2)
  · cases h
def strings_TrimLeft.f (a0 a1 : ByteArray) : Option ByteArray := if cutOk a0 a1 then some ⟨(Lib.trimLeftS a0.data.toList a1.data.toList).toArray⟩ else none
theorem strings_TrimLeft.calls (a0 a1 : ByteArray) (r : ByteArray) (w : World) (h : strings_TrimLeft.f a0 a1 = some r) :
    Calls Tryd.prog 80 #[.string a0, .string a1] w fun e w' => e = .returned (.string r) ∧ Below w.heap.size w w' := by
  unfold strings_TrimLeft.f at h
  split at h
  · rename_i hc
    obtain rfl := Option.some.inj h
    exact Tryd.strings_TrimLeft_laid a0 a1 w hc.2.1 (ascii_of_all hc.2.2)
  · cases h
def strconv_Itoa.f (a0 : Int) : Option ByteArray := if -9223372036854775808 ≤ a0 then (if a0 ≤ 9223372036854775807 then some ⟨(Lib.itoa a0).toArray⟩ else none) else none
theorem strconv_Itoa.calls (a0 : Int) (r : ByteArray) (w : World) (hT : Tabs w) (h : strconv_Itoa.f a0 = some r) :
    Calls Tryd.prog 78 #[.int .i64 a0] w fun e w' => e = .returned (.string r) ∧ Below w.heap.size w w' := by
  unfold strconv_Itoa.f at h
  split at h
  · split at h
    · rename_i h0 h1
      obtain rfl := Option.some.inj h
      refine (Tryd.strconv_Itoa a0 h0 h1 w hT.pow10).mono ?_
      rintro e w' ⟨rfl, k, os, rfl⟩
      exact ⟨rfl, below_grow w k os⟩
    · cases h
  · cases h

/-! ### num.Get -/
def digs : List UInt8 := [48, 49, 50, 51, 52, 53, 54, 55, 56, 57]
def trimD (d : List UInt8) : List UInt8 := Lib.trimS d digs
def cutD (s : List UInt8) : List UInt8 := Lib.trimPrefix s [45]
def isNeg (s : List UInt8) : Bool := Lib.hasPrefix s [45]
def getLoop (M : Nat) : Nat → List UInt8 → Option Nat
  | n, [] => some n
  | n, c :: r => if M < 10 * n + (c.toNat - 48) then none else getLoop M (10 * n + (c.toNat - 48)) r
theorem getLoop_step (M N : Nat) (l : List UInt8) (k : Nat) (x : UInt8) (h : l[k]? = some x) : getLoop M N (l.drop k) = if M < 10 * N + (x.toNat - 48) then none else getLoop M (10 * N + (x.toNat - 48)) (l.drop (k + 1)) := by
  obtain ⟨hk, rfl⟩ := List.getElem?_eq_some_iff.1 h
  rw [List.drop_eq_getElem_cons hk]
  rfl
theorem getLoop_end (M N : Nat) (l : List UInt8) (k : Nat) (h : l.length ≤ k) : getLoop M N (l.drop k) = some N := by
  rw [List.drop_eq_nil_of_le h]
  rfl
theorem trimD_all (d : List UInt8) (h : trimD d = []) : ∀ x ∈ d, 48 ≤ x.toNat ∧ x.toNat ≤ 57 := by
  have aux : ∀ x, digs.contains x = true → 48 ≤ x.toNat ∧ x.toNat ≤ 57 := by
    intro x hx
    have hx' : x ∈ digs := by simpa using hx
    simp only [digs, List.mem_cons, List.mem_nil_iff, or_false] at hx'
    rcases hx' with rfl | rfl | rfl | rfl | rfl | rfl | rfl | rfl | rfl | rfl <;> decide
  have h1 : ∀ l : List UInt8, l.dropWhile (digs.contains ·) = [] → ∀ x ∈ l, digs.contains x = true := by
    intro l
    induction l with
    | nil => intro _ x hx; cases hx
    | cons a l ih =>
      intro hl x hx
      rw [List.dropWhile_cons] at hl
      split at hl
      · rename_i ha
        cases List.mem_cons.1 hx with
        | inl e => rw [e]; exact ha
        | inr e => exact ih hl x e
      · cases hl
  have h2 : ∀ l : List UInt8, (∀ x ∈ l.dropWhile (digs.contains ·), digs.contains x = true) → ∀ x ∈ l, digs.contains x = true := by
    intro l
    induction l with
    | nil => intro _ x hx; cases hx
    | cons a l ih =>
      intro hl x hx
      rw [List.dropWhile_cons] at hl
      split at hl
      · rename_i ha
        cases List.mem_cons.1 hx with
        | inl e => rw [e]; exact ha
        | inr e => exact ih hl x e
      · exact hl x hx
  intro x hx
  refine aux x ?_
  have h3 := h1 _ h
  have h4 : ∀ x ∈ d.reverse.dropWhile (digs.contains ·), digs.contains x = true := fun y hy => h3 y (by simpa [Lib.trimRightS] using hy)
  exact h2 d.reverse h4 x (by simpa using hx)
theorem trimD_any (d : List UInt8) (w : World) (h : d.length ≤ 9223372036854775807) :
    Calls Tryd.prog 77 #[.string ⟨d.toArray⟩, .string ⟨#[48, 49, 50, 51, 52, 53, 54, 55, 56, 57]⟩] w fun e w' => e = .returned (.string ⟨(trimD d).toArray⟩) ∧ Below w.heap.size w w' :=
  Tryd.strings_Trim_laid _ _ w (by simpa [ByteArray.size] using h) (by decide) (ascii_of_all (by decide))
theorem cutD_any (s : ByteArray) (w : World) :
    Calls Tryd.prog 76 #[.string s, .string ⟨#[45]⟩] w fun e w' => e = .returned (.tuple #[.string ⟨(cutD s.data.toList).toArray⟩, .bool (isNeg s.data.toList)]) ∧ w' = w :=
  Tryd.strings_CutPrefix _ _ _
theorem bytesL (s : ByteArray) : s.toList = s.data.toList := ByteArray.toList_eq s
theorem neg_wrap (N : Nat) (h : N ≤ 9223372036854775808) : wrap64 (IntKind.u64.wrap (-(N : Int))) = -(N : Int) := by
  rw [IntKind.wrap_u64]
  unfold wrap64
  omega
theorem below_bytes {w w2 : World} (hB : Below w.heap.size w w2) {s : ByteArray} : Below w.heap.size w (Lib.bytesWorld w2 5 s) := bytes_below hB hB.size 5 s
/-- What Get answers of what its loop comes to. -/
def getOf (m : Bool) : Option Nat → Int × Int
  | none => (0, 3)
  | some n => (if m then -(n : Int) else n, 0)
def getV (s : List UInt8) : Int × Int :=
  if cutD s = [] then (0, 2) else if trimD (cutD s) ≠ [] then (0, 2) else if (cutD s).head? = some 48 ∧ s ≠ [48] then (0, 2)
  else getOf (isNeg s) (getLoop (if isNeg s then 9223372036854775808 else 9223372036854775807) 0 (cutD s))
def GetPost (v : Int × Int) (w : World) (e : Ending) (w' : World) : Prop := e = .returned (.tuple #[.int .i64 v.1, .int .i64 v.2]) ∧ Below w.heap.size w w'

set_option maxHeartbeats 1600000 in
set_option maxRecDepth 100000 in
theorem get_pos (a0 : ByteArray) (w : World) (c : UInt8) (r : List UInt8) (hsz : r.length ≤ 140737488355328) (hd : cutD a0.data.toList = c :: r) (hm : isNeg a0.data.toList = false) (ht : trimD (c :: r) = []) (hz : ¬ (c = 48 ∧ a0.data.toList ≠ [48])) :
    Calls Tryd.prog 46 #[.string a0] w (GetPost (getOf false (getLoop 9223372036854775807 0 (c :: r))) w) := by
  have Hall := Lib.hid (trimD_all _ ht)
  have Hz := Lib.hid hz
  have Hd := Lib.hid hd
  have Hm := Lib.hid hm
  have Ht := Lib.hid ht
  clear hd hm ht hz
  have hcut := cutD_any a0 w
  rw [Hd.out, Hm.out] at hcut
  have Hcut := Lib.hid hcut
  clear hcut
  have h0x : ((⟨(c :: r).toArray⟩ : ByteArray)[0]'(by simp [ByteArray.size])).toNat = c.toNat := by simp [ByteArray.getElem_eq_getElem_data]
  have H0x := Lib.hid h0x
  clear h0x
  have kb := fun W => print_bytes (P := Tryd.prog) 9 88 5 Tryd.underlying9 Tryd.underlying88 Tryd.underlying5 ⟨(c :: r).toArray⟩ W
  go_enter Tryd.func46, Tryd.ntmps46
  go_wp2_with fail
  refine Hcut.out.mono ?_
  rintro e w1 ⟨rfl, rfl⟩
  go_wp2_with fail
  have htr := trimD_any (c :: r) w1 (by simp; omega)
  rw [Ht.out] at htr
  refine htr.mono ?_
  clear htr
  rintro e w2 ⟨rfl, hB⟩
  go_wp2_with fail
  · exfalso
    have h1 : (((⟨(c :: r).toArray⟩ : ByteArray)[0]'(by simp [ByteArray.size])).toNat : Int) = 48 := by assumption
    have h2 : (!a0.toList == [48]) = true := by assumption
    rw [H0x.out] at h1
    refine Hz.out ⟨?_, ?_⟩
    · apply UInt8.toNat_inj.mp; show c.toNat = 48; omega
    · intro h3
      rw [bytesL a0, h3] at h2
      simp at h2
  all_goals
    clear Hz Hd Hm Ht Hcut H0x kb
    go_loop [7, 38] (fun n i => ∃ (k N : Nat), k ≤ r.length + 1 ∧ i = .int .i64 k ∧ n = .int .u64 N ∧ N ≤ 9223372036854775807 ∧ Hid (getLoop 9223372036854775807 N ((c :: r).drop k) = getLoop 9223372036854775807 0 (c :: r))) (fun _ i => r.length + 1 - (intOf i).toNat)
    case atStart => exact ⟨0, 0, by omega, rfl, rfl, by omega, Lib.hid rfl⟩
    case round =>
      obtain ⟨k, N, hk, rfl, rfl, hN, hrest⟩ := hrel
      by_cases hlt : k < r.length + 1
      · obtain ⟨x, hx⟩ : ∃ x, (c :: r)[k]? = some x := ⟨(c :: r)[k]'(by simpa using hlt), by simp [hlt]⟩
        have hxd := Hall.out x (List.mem_of_getElem? hx)
        obtain ⟨hx1, hx2⟩ := hxd
        have hcell : (Lib.bytesWorld w2 5 ⟨(c :: r).toArray⟩).cell? ⟨w2.heap.size, k, none⟩ = some (.int .u8 x.toNat) := by
          rw [Lib.bytesWorld_cell w2 5 _ k (by simpa [ByteArray.size] using hlt)]
          simp [List.getD_eq_getElem?_getD, hx]
        have Hx := Lib.hid (getLoop_step 9223372036854775807 N (c :: r) k x hx)
        clear hx
        go_wp2_with fail
        · have h3 : ((9223372036854775807 : Int) - ((x.toNat : Int) - 48)) / 10 < (N : Int) := by assumption
          go_ret2
          refine ⟨?_, below_bytes hB⟩
          rw [← hrest.out, Hx.out, if_pos (by omega)]
          rfl
        · have h3 : (N : Int) ≤ ((9223372036854775807 : Int) - ((x.toNat : Int) - 48)) / 10 := by assumption
          go_round
          case rel => exact ⟨k + 1, 10 * N + (x.toNat - 48), by omega, by go_num, by rw [show ((10 * N + (x.toNat - 48) : Nat) : Int) = 10 * (N : Int) + ((x.toNat : Int) - 48) from by omega], by omega, Lib.hid (by rw [← hrest.out, Hx.out, if_neg (by omega)])⟩
          case measure => simp [intOf]; omega
      · have Hend := Lib.hid (getLoop_end 9223372036854775807 N (c :: r) k (by simp; omega))
        go_wp2_with fail
        go_ret2
        refine ⟨?_, below_bytes hB⟩
        rw [← hrest.out, Hend.out]
        rfl

set_option maxHeartbeats 1600000 in
set_option maxRecDepth 100000 in
theorem get_neg (a0 : ByteArray) (w : World) (c : UInt8) (r : List UInt8) (hsz : r.length ≤ 140737488355328) (hd : cutD a0.data.toList = c :: r) (hm : isNeg a0.data.toList = true) (ht : trimD (c :: r) = []) (hz : ¬ (c = 48 ∧ a0.data.toList ≠ [48])) :
    Calls Tryd.prog 46 #[.string a0] w (GetPost (getOf true (getLoop 9223372036854775808 0 (c :: r))) w) := by
  have Hall := Lib.hid (trimD_all _ ht)
  have Hz := Lib.hid hz
  have Hd := Lib.hid hd
  have Hm := Lib.hid hm
  have Ht := Lib.hid ht
  clear hd hm ht hz
  have hcut := cutD_any a0 w
  rw [Hd.out, Hm.out] at hcut
  have Hcut := Lib.hid hcut
  clear hcut
  have h0x : ((⟨(c :: r).toArray⟩ : ByteArray)[0]'(by simp [ByteArray.size])).toNat = c.toNat := by simp [ByteArray.getElem_eq_getElem_data]
  have H0x := Lib.hid h0x
  clear h0x
  have kb := fun W => print_bytes (P := Tryd.prog) 9 88 5 Tryd.underlying9 Tryd.underlying88 Tryd.underlying5 ⟨(c :: r).toArray⟩ W
  go_enter Tryd.func46, Tryd.ntmps46
  go_wp2_with fail
  refine Hcut.out.mono ?_
  rintro e w1 ⟨rfl, rfl⟩
  go_wp2_with fail
  have htr := trimD_any (c :: r) w1 (by simp; omega)
  rw [Ht.out] at htr
  refine htr.mono ?_
  clear htr
  rintro e w2 ⟨rfl, hB⟩
  go_wp2_with fail
  · exfalso
    have h1 : (((⟨(c :: r).toArray⟩ : ByteArray)[0]'(by simp [ByteArray.size])).toNat : Int) = 48 := by assumption
    have h2 : (!a0.toList == [48]) = true := by assumption
    rw [H0x.out] at h1
    refine Hz.out ⟨?_, ?_⟩
    · apply UInt8.toNat_inj.mp; show c.toNat = 48; omega
    · intro h3
      rw [bytesL a0, h3] at h2
      simp at h2
  all_goals
    clear Hz Hd Hm Ht Hcut H0x kb
    go_loop [7, 38] (fun n i => ∃ (k N : Nat), k ≤ r.length + 1 ∧ i = .int .i64 k ∧ n = .int .u64 N ∧ N ≤ 9223372036854775808 ∧ Hid (getLoop 9223372036854775808 N ((c :: r).drop k) = getLoop 9223372036854775808 0 (c :: r))) (fun _ i => r.length + 1 - (intOf i).toNat)
    case atStart => exact ⟨0, 0, by omega, rfl, rfl, by omega, Lib.hid rfl⟩
    case round =>
      obtain ⟨k, N, hk, rfl, rfl, hN, hrest⟩ := hrel
      by_cases hlt : k < r.length + 1
      · obtain ⟨x, hx⟩ : ∃ x, (c :: r)[k]? = some x := ⟨(c :: r)[k]'(by simpa using hlt), by simp [hlt]⟩
        have hxd := Hall.out x (List.mem_of_getElem? hx)
        obtain ⟨hx1, hx2⟩ := hxd
        have hcell : (Lib.bytesWorld w2 5 ⟨(c :: r).toArray⟩).cell? ⟨w2.heap.size, k, none⟩ = some (.int .u8 x.toNat) := by
          rw [Lib.bytesWorld_cell w2 5 _ k (by simpa [ByteArray.size] using hlt)]
          simp [List.getD_eq_getElem?_getD, hx]
        have Hx := Lib.hid (getLoop_step 9223372036854775808 N (c :: r) k x hx)
        clear hx
        go_wp2_with fail
        · have h3 : ((9223372036854775808 : Int) - ((x.toNat : Int) - 48)) / 10 < (N : Int) := by assumption
          go_ret2
          refine ⟨?_, below_bytes hB⟩
          rw [← hrest.out, Hx.out, if_pos (by omega)]
          rfl
        · have h3 : (N : Int) ≤ ((9223372036854775808 : Int) - ((x.toNat : Int) - 48)) / 10 := by assumption
          go_round
          case rel => exact ⟨k + 1, 10 * N + (x.toNat - 48), by omega, by go_num, by rw [show ((10 * N + (x.toNat - 48) : Nat) : Int) = 10 * (N : Int) + ((x.toNat : Int) - 48) from by omega], by omega, Lib.hid (by rw [← hrest.out, Hx.out, if_neg (by omega)])⟩
          case measure => simp [intOf]; omega
      · have Hend := Lib.hid (getLoop_end 9223372036854775808 N (c :: r) k (by simp; omega))
        go_wp2_with fail
        go_ret2
        refine ⟨?_, below_bytes hB⟩
        rw [← hrest.out, Hend.out]
        show Ending.returned (.tuple #[.int .i64 (wrap64 (IntKind.u64.wrap (-(N : Int)))), .int .i64 0]) = _
        rw [neg_wrap N hN]
        rfl

set_option maxHeartbeats 800000 in
set_option maxRecDepth 100000 in
theorem get_empty (a0 : ByteArray) (w : World) (hd : cutD a0.data.toList = []) : Calls Tryd.prog 46 #[.string a0] w (GetPost (0, 2) w) := by
  have hcut := cutD_any a0 w
  rw [hd] at hcut
  have Hcut := Lib.hid hcut
  clear hcut hd
  go_enter Tryd.func46, Tryd.ntmps46
  go_wp2_with fail
  refine Hcut.out.mono ?_
  rintro e w1 ⟨rfl, rfl⟩
  go_wp2_with fail
  go_ret2
  exact ⟨rfl, Below.refl _ _⟩
set_option maxHeartbeats 800000 in
set_option maxRecDepth 100000 in
theorem get_signs (a0 : ByteArray) (w : World) (c : UInt8) (r : List UInt8) (hsz : r.length ≤ 140737488355328) (hd : cutD a0.data.toList = c :: r) (x : UInt8) (y : List UInt8) (ht : trimD (c :: r) = x :: y) : Calls Tryd.prog 46 #[.string a0] w (GetPost (0, 2) w) := by
  have Ht := Lib.hid ht
  have hcut := cutD_any a0 w
  rw [hd] at hcut
  have Hcut := Lib.hid hcut
  clear hcut hd ht
  go_enter Tryd.func46, Tryd.ntmps46
  go_wp2_with fail
  refine Hcut.out.mono ?_
  rintro e w1 ⟨rfl, rfl⟩
  go_wp2_with fail
  have htr := trimD_any (c :: r) w1 (by simp; omega)
  rw [Ht.out] at htr
  refine htr.mono ?_
  clear htr
  rintro e w2 ⟨rfl, hB⟩
  go_wp2_with fail
  go_ret2
  exact ⟨rfl, hB⟩
set_option maxHeartbeats 800000 in
set_option maxRecDepth 100000 in
theorem get_nought (a0 : ByteArray) (w : World) (r : List UInt8) (hsz : r.length ≤ 140737488355328) (hd : cutD a0.data.toList = 48 :: r) (ht : trimD (48 :: r) = []) (h48 : a0.data.toList ≠ [48]) : Calls Tryd.prog 46 #[.string a0] w (GetPost (0, 2) w) := by
  have Ht := Lib.hid ht
  have hcut := cutD_any a0 w
  rw [hd] at hcut
  have Hcut := Lib.hid hcut
  have h1 : (a0.toList == [48]) = false := by rw [bytesL]; simpa using h48
  clear hcut hd ht
  go_enter Tryd.func46, Tryd.ntmps46
  go_wp2_with fail
  refine Hcut.out.mono ?_
  rintro e w1 ⟨rfl, rfl⟩
  go_wp2_with fail
  have htr := trimD_any (48 :: r) w1 (by simp; omega)
  rw [Ht.out] at htr
  refine htr.mono ?_
  clear htr
  rintro e w2 ⟨rfl, hB⟩
  have h0x : (((⟨(48 :: r).toArray⟩ : ByteArray)[0]'(by simp [ByteArray.size])).toNat : Int) = 48 := by simp [ByteArray.getElem_eq_getElem_data]
  go_wp2_with fail
  go_ret2
  exact ⟨rfl, hB⟩
def num_Get.f (a0 : ByteArray) : Option (Int × Int) := if a0.size ≤ 140737488355328 then some (getV a0.data.toList) else none
theorem cutD_le (s : List UInt8) : (cutD s).length ≤ s.length := by
  unfold cutD Lib.trimPrefix
  split <;> simp
theorem num_Get.calls (a0 : ByteArray) (r1 r2 : Int) (w : World) (h : num_Get.f a0 = some (r1, r2)) :
    Calls Tryd.prog 46 #[.string a0] w fun e w' => e = .returned (.tuple #[.int .i64 r1, .int .i64 r2]) ∧ Below w.heap.size w w' := by
  unfold num_Get.f at h
  split at h
  · rename_i hs
    have h := Option.some.inj h
    have key : Calls Tryd.prog 46 #[.string a0] w (GetPost (getV a0.data.toList) w) := by
      have hle := cutD_le a0.data.toList
      rw [data_length] at hle
      unfold getV
      cases hd : cutD a0.data.toList with
      | nil => rw [if_pos rfl]; exact get_empty a0 w hd
      | cons c r =>
        rw [hd, List.length_cons] at hle
        rw [if_neg (by simp)]
        cases ht : trimD (c :: r) with
        | cons x y => rw [if_pos (by simp)]; exact get_signs a0 w c r (by omega) hd x y ht
        | nil =>
          rw [if_neg (by simp)]
          by_cases hz : c = 48 ∧ a0.data.toList ≠ [48]
          · obtain ⟨rfl, hz⟩ := hz
            rw [if_pos ⟨rfl, hz⟩]
            exact get_nought a0 w r (by omega) hd ht hz
          · rw [if_neg (by simpa using hz)]
            cases hm : isNeg a0.data.toList with
            | false => rw [if_neg (by simp)]; exact get_pos a0 w c r (by omega) hd hm ht hz
            | true => rw [if_pos rfl]; exact get_neg a0 w c r (by omega) hd hm ht hz
    rw [h] at key
    exact key
  · cases h
end Go.Proofs.YtcabnjinfkjnjaaDoor.X
