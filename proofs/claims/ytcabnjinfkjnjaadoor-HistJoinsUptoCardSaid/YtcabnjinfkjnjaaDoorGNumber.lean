/- GIVEN CONTRACT (this session's): (*read.cursor).number, in the form in which the print states its own. -/
import Derived.Test.YtcabnjinfkjnjaaDoorXHx3
import Derived.Test.YtcabnjinfkjnjaaDoorPureNum
import Derived.Lib.QuietBelow
import Derived.IntWalk
namespace Go.Proofs.YtcabnjinfkjnjaaDoor.XH
open Go.RowKit Go.Sort Go.Proofs.YtcabnjinfkjnjaaDoorW.PrintWords Go.Proofs.YtcabnjinfkjnjaaDoorW.PrintLast Go.Proofs.YtcabnjinfkjnjaaDoor.X
set_option linter.unusedVariables false

theorem span_any (s : ByteArray) (i : Int) (w : World) (hs : s.size ≤ 140737488355328) :
    Calls Tryd.prog 50 #[.string s, .int .i64 i] w fun e w' => e = .returned (.int .i64 (spanAt s i)) ∧ Below w.heap.size w w' :=
  num_Span.calls 1 s i _ w (span_num s i hs 0)
/-- The number that is read of the signs at a place that look like one, and its error. -/
def numAt (s : ByteArray) (i : Int) : Int × Int := getV ((s.data.toList.drop i.toNat).take (spanAt s i).toNat)
theorem spanAt_le (s : ByteArray) (i : Int) (h0 : 0 ≤ i) (h1 : i ≤ s.size) : 0 ≤ spanAt s i ∧ i + spanAt s i ≤ s.size := by
  unfold spanAt
  rw [if_neg (by omega)]
  by_cases h : i ≥ s.size
  · rw [if_pos h]; omega
  · rw [if_neg h]
    have hl : (s.data.toList.drop i.toNat).length = s.size - i.toNat := by rw [List.length_drop, size_list]
    have : spanL (s.data.toList.drop i.toNat) ≤ (s.data.toList.drop i.toNat).length := by
      generalize s.data.toList.drop i.toNat = l
      unfold spanL
      split
      · rename_i hh
        have h3 := (List.takeWhile_sublist isDig (l := l.tail)).length_le
        cases l with
        | nil => cases hh
        | cons c r => simp only [List.tail_cons, List.length_cons] at h3 ⊢; omega
      · exact (List.takeWhile_sublist isDig).length_le
    omega
theorem get_any (s : ByteArray) (i j : Int) (w : World) (hs : s.size ≤ 140737488355328) (hj : j = i + spanAt s i) (h0 : 0 ≤ i) :
    Calls Tryd.prog 46 #[.string (s.extract i.toNat j.toNat)] w fun e w' => e = .returned (.tuple #[.int .i64 (numAt s i).1, .int .i64 (numAt s i).2]) ∧ Below w.heap.size w w' := by
  have hl : (s.extract i.toNat j.toNat).data.toList = (s.data.toList.drop i.toNat).take (j.toNat - i.toNat) := Lib.extract_data s i.toNat j.toNat
  have hj2 : j.toNat - i.toNat = (spanAt s i).toNat := by subst hj; omega
  refine num_Get.calls _ _ _ w ?_
  unfold num_Get.f
  have hsz : (s.extract i.toNat j.toNat).size ≤ 140737488355328 := by
    rw [size_list, hl]
    have := List.length_take_le (j.toNat - i.toNat) (s.data.toList.drop i.toNat)
    have h4 := List.length_take_le' (j.toNat - i.toNat) (s.data.toList.drop i.toNat)
    rw [List.length_drop, ← size_list] at h4
    omega
  rw [if_pos hsz, hl, hj2]
  rfl
def read_cursor_number.f (s : ByteArray) (i ops e : Int) : Option (Int × ByteArray × Int × Int × Int) :=
  if e = 0 then (if 0 ≤ i ∧ i ≤ s.size ∧ s.size ≤ 140737488355328 then (if (numAt s i).2 = 0 then some ((numAt s i).1, s, i + spanAt s i, ops, 0) else some (0, s, i, ops, (numAt s i).2)) else none) else some (0, s, i, ops, e)
def NumPost (w0 w : World) (g : Nat) (v : Int) (s : ByteArray) (i ops x : Int) (e : Ending) (w' : World) : Prop :=
  e = .returned (.int .i64 v) ∧ IsS110 w0 w' g s i ops x ∧ Below w0.heap.size w0 w' ∧ KeepBut w w' g none
set_option maxHeartbeats 1600000 in
set_option maxRecDepth 100000 in
theorem number_stays (g : Nat) (s : ByteArray) (i ops x : Int) (w0 w : World) (hI : IsS110 w0 w g s i ops x) (hB : Below w0.heap.size w0 w) (hx : ¬ x = 0) : Calls Tryd.prog 112 #[.pointer (some ⟨g, 0, none⟩)] w (NumPost w0 w g 0 s i ops x) := by
  obtain ⟨HG, hg⟩ := hI
  have c3 := cellS110_3 HG
  have h1 : (x != 0) = true := bne_iff_ne.mpr hx
  have HI := Lib.hid (show IsS110 w0 w g s i ops x from ⟨HG, hg⟩)
  have HBB := Lib.hid hB
  clear HG hg hB
  go_enter Tryd.func112, Tryd.ntmps112
  go_wp2
  go_ret
  exact ⟨rfl, HI.out, HBB.out, KeepBut.refl _ _ _⟩
set_option maxHeartbeats 3200000 in
set_option maxRecDepth 100000 in
theorem number_goes (g : Nat) (s : ByteArray) (i ops : Int) (w0 w : World) (hI : IsS110 w0 w g s i ops 0) (hB : Below w0.heap.size w0 w) (h0 : 0 ≤ i) (h1 : i ≤ s.size) (hs : s.size ≤ 140737488355328) (v x : Int) (hv : numAt s i = (v, x)) :
    Calls Tryd.prog 112 #[.pointer (some ⟨g, 0, none⟩)] w (if x = 0 then NumPost w0 w g v s (i + spanAt s i) ops 0 else NumPost w0 w g 0 s i ops x) := by
  have mixed : Tryd.prog.follows .mixedOrders = true := by kernel_rfl
  obtain ⟨k0, k1⟩ := spanAt_le s i h0 h1
  have cS := fun W => span_any s i W hs
  have cG := fun W => get_any s i (i + spanAt s i) W hs rfl h0
  generalize spanAt s i = k at k0 k1 cS cG ⊢
  rw [hv] at cG
  have CS := Lib.hid cS
  have CG := Lib.hid cG
  clear cS cG hv
  obtain ⟨HG, hg⟩ := hI
  have c0 := cellS110_0 HG
  have c1 := cellS110_1 HG
  have c3 := cellS110_3 HG
  have r0 := cell_regrown c0
  have r1 := cell_regrown c1
  have cQ : ∀ d os, Calls Tryd.prog 50 #[.string s, .int .i64 i] (grow (redrawn w d) os) fun e w'' => e = .returned (.int .i64 k) ∧ ∃ p : Regrown, w'' = grow (redrawn w p.d) p.os := fun d os => Calls.regrown_of (CS.out _)
  have HI := Lib.hid (show IsS110 w0 w g s i ops 0 from ⟨HG, hg⟩)
  have HBB := Lib.hid hB
  clear HG hg hB
  have wk : IntKind.i64.wrap (i + k) = i + k := IntWalk.i64_in _ (by omega)
  have k2 : i ≤ i + k := by omega
  have k3 : 0 ≤ i + k := by omega
  generalize hQ : (if x = 0 then NumPost w0 w g v s (i + k) ops 0 else NumPost w0 w g 0 s i ops x) = Q
  have HQ := Lib.hid hQ
  clear hQ
  go_enter Tryd.func112, Tryd.ntmps112
  go_wp2
  refine wp_region_quiet_below (by assumption) (by kernel_rfl) ?_
  repeat (quiet_step (first | exact cQ _ _))
  refine wpQuiet_nil ?_
  intro _ hw'
  obtain ⟨⟨dq, osq⟩, hw''⟩ := hw'
  subst hw''
  have hb1 := below_regrown w dq osq
  clear cQ r0 r1 c0 c1 c3
  obtain ⟨w1, hw1⟩ : ∃ w1, w1 = grow (redrawn w dq) osq := ⟨_, rfl⟩
  rw [← hw1] at hb1 ⊢
  clear hw1
  have hI1 := IsS110.below HI.out hb1
  obtain ⟨HG, hg⟩ := hI1
  have c0 := cellS110_0 HG
  have c1 := cellS110_1 HG
  have r0 := cell_regrown c0
  have r1 := cell_regrown c1
  have HI1 := Lib.hid (show IsS110 w0 w1 g s i ops 0 from ⟨HG, hg⟩)
  have HB1 := Lib.hid hb1
  clear HG hg hb1
  have cQ : ∀ d os, Calls Tryd.prog 46 #[.string (s.extract i.toNat (i + k).toNat)] (grow (redrawn w1 d) os) fun e w'' => e = .returned (.tuple #[.int .i64 v, .int .i64 x]) ∧ ∃ p : Regrown, w'' = grow (redrawn w1 p.d) p.os := fun d os => Calls.regrown_of (CG.out _)
  go_wp2
  refine wp_region_quiet_below (by assumption) (by kernel_rfl) ?_
  repeat (quiet_step (first | exact cQ _ _))
  refine wpQuiet_nil ?_
  intro _ hw'
  obtain ⟨⟨dr, osr⟩, hw''⟩ := hw'
  subst hw''
  have hb2 := below_regrown w1 dr osr
  clear cQ r0 r1 c0 c1 wk k2 k3
  obtain ⟨w2, hw2⟩ : ∃ w2, w2 = grow (redrawn w1 dr) osr := ⟨_, rfl⟩
  rw [← hw2] at hb2 ⊢
  clear hw2
  have hI2 := IsS110.below HI1.out hb2
  have hk2 : KeepBut w w2 g none := KeepBut.trans (KeepBut.of_below HB1.out g none) (KeepBut.of_below hb2 g none) (.inl rfl)
  have hbb : Below w0.heap.size w0 w2 := below_step (below_step HBB.out HB1.out) hb2
  have HK2 := Lib.hid hk2
  have HBB2 := Lib.hid hbb
  obtain ⟨HG, hg⟩ := hI2
  have c1 := cellS110_1 HG
  have f1 := blk_frozen HG 1
  have HI2 := Lib.hid (show IsS110 w0 w2 g s i ops 0 from ⟨HG, hg⟩)
  clear HG hg hb2 hk2 hbb
  by_cases hx : x = 0
  · subst hx
    go_wp2
    rw [← HQ.out, if_pos trivial]
    refine ⟨rfl, IsS110.set_1 HI2.out _, ?_, ?_⟩
    · exact below_set HBB2.out (IsS110.ge HI2.out)
    · exact KeepBut.set_ HK2.out _ _
  · have HX := Lib.hid hx
    have h1 : (x != 0) = true := bne_iff_ne.mpr hx
    have hf : read_cursor_fail.f s i ops 0 x = some (s, i, ops, x) := by unfold read_cursor_fail.f; rw [if_pos rfl]
    have HF := Lib.hid hf
    clear hf hx
    go_wp2_with fail
    refine (read_cursor_fail.calls g s i ops 0 x s i ops x w0 w2 HI2.out HBB2.out HF.out).mono ?_
    rintro e w3 ⟨rfl, hi3, hb3, hk3⟩
    have HI3 := Lib.hid hi3
    have HB3 := Lib.hid hb3
    have HK3 := Lib.hid hk3
    clear hi3 hb3 hk3
    go_wp2_with fail
    rw [← HQ.out, if_neg HX.out]
    exact ⟨rfl, HI3.out, HB3.out, KeepBut.trans HK2.out HK3.out (.inl rfl)⟩
theorem read_cursor_number.calls (g : Nat) (s0_0 : ByteArray) (s0_1 : Int) (s0_2 : Int) (s0_3 : Int) (r1 : Int) (r2 : ByteArray) (r3 : Int) (r4 : Int) (r5 : Int) (w0 w : World) (hI : IsS110 w0 w g s0_0 s0_1 s0_2 s0_3) (hB : Below w0.heap.size w0 w) (h : read_cursor_number.f s0_0 s0_1 s0_2 s0_3 = some (r1, r2, r3, r4, r5)) :
    Calls Tryd.prog 112 #[.pointer (some ⟨g, 0, none⟩)] w fun e w' => e = .returned (.int .i64 r1) ∧ IsS110 w0 w' g r2 r3 r4 r5 ∧ Below w0.heap.size w0 w' ∧ KeepBut w w' g none := by
  unfold read_cursor_number.f at h
  by_cases hx : s0_3 = 0
  · subst hx
    rw [if_pos rfl] at h
    split at h
    · rename_i hc
      obtain ⟨h0, h1, hs⟩ := hc
      have key := number_goes g s0_0 s0_1 s0_2 w0 w hI hB h0 h1 hs (numAt s0_0 s0_1).1 (numAt s0_0 s0_1).2 rfl
      split at h
      · rename_i hz
        rw [if_pos hz] at key
        simp only [Option.some.injEq, Prod.mk.injEq] at h
        obtain ⟨rfl, rfl, rfl, rfl, rfl⟩ := h
        exact key
      · rename_i hz
        rw [if_neg hz] at key
        simp only [Option.some.injEq, Prod.mk.injEq] at h
        obtain ⟨rfl, rfl, rfl, rfl, rfl⟩ := h
        exact key
    · cases h
  · rw [if_neg hx] at h
    simp only [Option.some.injEq, Prod.mk.injEq] at h
    obtain ⟨rfl, rfl, rfl, rfl, rfl⟩ := h
    exact number_stays g _ _ _ _ w0 w hI hB hx
end Go.Proofs.YtcabnjinfkjnjaaDoor.XH
