/- THE LAW TellLines, walked by hand. -/
import Derived.Test.YtcabnjinfkjnjaaDoorGTellD
namespace Go.Proofs.YtcabnjinfkjnjaaDoor.XH
open Go.RowKit Go.Proofs.YtcabnjinfkjnjaaDoorW.PrintWords Go.Proofs.YtcabnjinfkjnjaaDoorW.PrintLast Go.Proofs.YtcabnjinfkjnjaaDoorW.PrintMore Go.Proofs.YtcabnjinfkjnjaaDoor.X
set_option linter.unusedVariables false
/-- How many of a string's first k bytes are line ends. -/
def cnt (s : ByteArray) (k : Nat) : Nat := (s.data.toList.take k).countP (fun b => b == 10)
theorem cnt_le (s : ByteArray) (k : Nat) : cnt s k ≤ k := Nat.le_trans List.countP_le_length (by rw [List.length_take]; omega)
theorem cnt_succ (s : ByteArray) (k : Nat) (h : k < s.size) : cnt s (k + 1) = if s.data.toList.getD k 0 = 10 then cnt s k + 1 else cnt s k := by
  have hl : k < s.data.toList.length := by rw [Array.length_toList]; exact h
  unfold cnt
  rw [List.take_add_one, List.getElem?_eq_getElem hl, List.countP_append, List.getD_eq_getElem?_getD, List.getElem?_eq_getElem hl]
  simp only [Option.toList, Option.getD_some, List.countP_cons, List.countP_nil]
  by_cases hb : s.data.toList[k] = 10
  · rw [if_pos hb, hb]; rfl
  · rw [if_neg hb, if_neg (by simpa using hb)]; rfl
theorem at_data (s : ByteArray) (k : Nat) (h : k < s.size) : s.data.toList.getD k 0 = s[k] := by
  have hl : k < s.data.toList.length := by rw [Array.length_toList]; exact h
  rw [List.getD_eq_getElem?_getD, List.getElem?_eq_getElem hl]
  rfl
theorem cnt_hit (s : ByteArray) (k : Nat) (h : k < s.size) (hb : ((s[k].toNat : Int) == 10) = true) : cnt s (k + 1) = cnt s k + 1 := by
  rw [cnt_succ s k h, at_data s k h, if_pos]
  apply UInt8.toNat_inj.mp
  have := of_decide_eq_true (show decide ((s[k].toNat : Int) = 10) = true from hb)
  show s[k].toNat = 10
  omega
theorem cnt_miss (s : ByteArray) (k : Nat) (h : k < s.size) (hb : ((s[k].toNat : Int) == 10) = false) : cnt s (k + 1) = cnt s k := by
  rw [cnt_succ s k h, at_data s k h, if_neg]
  intro he
  rw [he] at hb
  exact absurd hb (by decide)
set_option maxHeartbeats 2000000 in
set_option maxRecDepth 100000 in
theorem tellLines_yes (x : WitHead) (hx : WitIn x) (A : Option Addr) (c : Nat) (l : List S46) (hl : l.length ≤ 60) (hi : ∀ y ∈ l, StepIn y) (lv at_ : Int) (hlv : in64 lv) (hat : in64 at_) (w : World) (hT : Tabs w) (hC : k46.C w A l.length l) (hS1 : (⟨(witT lv x l).toArray⟩ : ByteArray).size ≤ 100000000) (hS2 : (⟨(errT 2 at_ 0 0).toArray⟩ : ByteArray).size ≤ 100000000) (hN1 : cnt ⟨(witT lv x l).toArray⟩ (⟨(witT lv x l).toArray⟩ : ByteArray).size = 2 + l.length) (hN2 : cnt ⟨(errT 2 at_ 0 0).toArray⟩ (⟨(errT 2 at_ 0 0).toArray⟩ : ByteArray).size = 1) :
    Calls Tryd.prog 5 #[.agg #[.int .i64 x.k, .int .i64 x.r, .int .i64 x.w1, .int .i64 x.w2, .int .i64 x.o, .slice A l.length c, .int .i64 x.f, .int .i64 x.s], .int .i64 lv, .int .i64 at_] w (TrueIs w) := by
  have HT := Lib.hid hT
  have HC := Lib.hid hC
  have HX := Lib.hid hx
  have HS := Lib.hid hi
  clear hT hC hx hi
  go_enter Tryd.func5, Tryd.ntmps5
  go_wp2_with fail
  obtain ⟨W1, hW1⟩ : ∃ W1, w.alloc (.cells #[.int .i64 x.k, .int .i64 x.r, .int .i64 x.w1, .int .i64 x.w2, .int .i64 x.o, .slice A l.length c, .int .i64 x.f, .int .i64 x.s] 32) = W1 := ⟨_, rfl⟩
  have hbox : W1.heap[w.heap.size]? = some (.cells #[.int .i64 x.k, .int .i64 x.r, .int .i64 x.w1, .int .i64 x.w2, .int .i64 x.o, .slice A l.length c, .int .i64 x.f, .int .i64 x.s] 32 (0, 0)) := by rw [← hW1]; exact heap_alloc_new w _
  have hB1 : Below w.heap.size w W1 := by rw [← hW1]; exact below_alloc (Below.refl _ _) _
  have hlt : w.heap.size < W1.heap.size := by rw [← hW1, World.size_alloc]; omega
  rw [hW1]
  clear hW1
  refine (textWit_any lv hlv x HX.out A c l (by omega) HS.out _ _ _ _ _ _ _ _ W1 (HT.out.below hB1) (Kd.C_below HC.out hB1)).mono ?_
  rintro e1 W2 ⟨rfl, hB⟩
  have hbox2 := (hB.block _ hlt).trans hbox
  have HB2 := Lib.hid (below_step hB1 hB)
  have hlt2 := Nat.lt_of_lt_of_le hlt hB.size
  clear hB hbox hB1 hlt
  generalize (⟨(witT lv x l).toArray⟩ : ByteArray) = S at hS1 hN1 ⊢
  go_wp2_with fail
  refine (textErr_any 2 at_ 0 0 (by decide) (by unfold in64; omega) hat (by unfold in64; omega) (by unfold in64; omega) _ _ _ _ _ _ _ _ _ _ _ _ _ _ _ W2 (HT.out.below HB2.out)).mono ?_
  rintro e1 W3 ⟨rfl, hB⟩
  have hbox3 := (hB.block _ hlt2).trans hbox2
  have HB3 := Lib.hid (below_step HB2.out hB)
  clear hB hbox2 hlt2
  generalize (⟨(errT 2 at_ 0 0).toArray⟩ : ByteArray) = T at hS2 hN2 ⊢
  have hc : W3.cell? ⟨w.heap.size, 5, none⟩ = some (.slice A l.length c) := by rw [Lib.cell_of_heap hbox3]; rfl
  clear hbox3
  have HN1 := Lib.hid hN1
  have HN2 := Lib.hid hN2
  clear hN1 hN2
  go_wp2_with fail
  go_loop [9, 11] (fun n i => ∃ k : Nat, k ≤ S.size ∧ i = .int .i64 k ∧ n = .int .i64 (cnt S k : Nat)) (fun _ i => S.size - (intOf i).toNat)
  case atStart => exact ⟨0, Nat.zero_le _, rfl, rfl⟩
  case round =>
    obtain ⟨k, hk, rfl, rfl⟩ := hrel
    have hcl := cnt_le S k
    by_cases hlt : k < S.size
    · go_wp2_with fail
      · rename_i hb
        have hcs := cnt_hit S k hlt hb
        exact ⟨⟨k + 1, by omega, by go_num, by rw [hcs]; go_num⟩, by simp [intOf]; omega⟩
      · rename_i hb
        have hcs := cnt_miss S k hlt hb
        exact ⟨⟨k + 1, by omega, by go_num, by rw [hcs]⟩, by simp [intOf]; omega⟩
    · obtain rfl : k = S.size := by omega
      rw [HN1.out]
      go_wp2_with fail
      go_loop [10, 12] (fun n i => ∃ k : Nat, k ≤ T.size ∧ i = .int .i64 k ∧ n = .int .i64 (cnt T k : Nat)) (fun _ i => T.size - (intOf i).toNat)
      case atStart => exact ⟨0, Nat.zero_le _, rfl, rfl⟩
      case round =>
        obtain ⟨k, hk, rfl, rfl⟩ := hrel
        have hcl := cnt_le T k
        by_cases hlt : k < T.size
        · go_wp2_with fail
          · rename_i hb
            have hcs := cnt_hit T k hlt hb
            exact ⟨⟨k + 1, by omega, by go_num, by rw [hcs]; go_num⟩, by simp [intOf]; omega⟩
          · rename_i hb
            have hcs := cnt_miss T k hlt hb
            exact ⟨⟨k + 1, by omega, by go_num, by rw [hcs]⟩, by simp [intOf]; omega⟩
        · obtain rfl : k = T.size := by omega
          rw [HN2.out]
          go_wp2_with fail
          refine (awake26 _ (HT.out.below HB3.out)).mono ?_
          rintro e1 W4 ⟨rfl, hB⟩
          have hc4 := pw_cell_below hB hc
          have HB4 := Lib.hid (below_step HB3.out hB)
          clear hB hc
          go_wp2_with fail
          go_ret
          exact ⟨rfl, HB4.out⟩
end Go.Proofs.YtcabnjinfkjnjaaDoor.XH
