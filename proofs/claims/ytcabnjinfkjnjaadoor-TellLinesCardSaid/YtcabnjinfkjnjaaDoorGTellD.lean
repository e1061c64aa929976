/- TELL: the laws' awake. -/
import Derived.Test.YtcabnjinfkjnjaaDoorGTellC
namespace Go.Proofs.YtcabnjinfkjnjaaDoor.XH
open Go.RowKit Go.Proofs.YtcabnjinfkjnjaaDoorW.PrintWords Go.Proofs.YtcabnjinfkjnjaaDoorW.PrintLast Go.Proofs.YtcabnjinfkjnjaaDoorW.PrintMore Go.Proofs.YtcabnjinfkjnjaaDoor.X
set_option linter.unusedVariables false
def TrueIs (w : World) (e : Ending) (w' : World) : Prop := e = .returned (.bool true) ∧ Below w.heap.size w w'
theorem awake_err : (⟨(errT 2 5 0 0).toArray⟩ : ByteArray) = ⟨#[101, 114, 114, 111, 114, 32, 50, 32, 53, 32, 48, 32, 48, 10]⟩ := by decide +kernel
theorem awake_line : lineV [⟨#[97]⟩, ⟨#[98]⟩] = ⟨#[97, 32, 98, 10]⟩ := by decide +kernel
theorem awake_num : lineV (numW ⟨#[97, 114, 98]⟩ []) = ⟨#[97, 114, 98, 10]⟩ := by decide +kernel
set_option maxHeartbeats 2000000 in
set_option maxRecDepth 100000 in
theorem awake26 (w : World) (hT : Tabs w) : Calls Tryd.prog 20 #[] w (TrueIs w) := by
  have HT := Lib.hid hT
  clear hT
  go_enter Tryd.func20, Tryd.ntmps20
  go_wp2_with fail
  refine (textErr_any 2 5 0 0 (by decide) (by unfold in64; omega) (by unfold in64; omega) (by unfold in64; omega) (by unfold in64; omega) _ _ _ _ _ _ _ _ _ _ _ _ _ _ _ w HT.out).mono ?_
  rintro e1 W1 ⟨rfl, hB⟩
  rw [awake_err]
  have HB1 := Lib.hid hB
  clear hB
  go_wp2_with fail
  obtain ⟨W2, hW2⟩ : ∃ W2, W1.alloc (.cells #[.string ⟨#[97]⟩, .string ⟨#[98]⟩] 9) = W2 := ⟨_, rfl⟩
  have hB2 : Below w.heap.size w W2 := by rw [← hW2]; exact below_alloc HB1.out _
  have hlt : W1.heap.size < W2.heap.size := by rw [← hW2, World.size_alloc]; omega
  have hcs : ∀ (j : Nat) x, ([⟨#[97]⟩, ⟨#[98]⟩] : List ByteArray)[j]? = some x → W2.cell? ⟨W1.heap.size, j, none⟩ = some (.string x) := by
    intro j x hj
    rw [← hW2, Lib.cell_of_heap (heap_alloc_new W1 _)]
    match j, hj with
    | 0, hj => cases hj; rfl
    | 1, hj => cases hj; rfl
    | j + 2, hj => simp at hj
  rw [hW2]
  clear hW2
  refine (line_any W1.heap.size 2 [⟨#[97]⟩, ⟨#[98]⟩] W2 hcs hlt (by decide) (by decide) (by decide +kernel)).mono ?_
  rintro e1 W3 ⟨rfl, hB⟩
  rw [awake_line]
  have HB3 := Lib.hid (below_step hB2 hB)
  clear hB hB2 hlt hcs
  go_wp2_with fail
  refine (numbers_any none 0 ⟨#[97, 114, 98]⟩ [] W3 (HT.out.below HB3.out) (Kd.C_nil _ _) (by simp) (by decide) (fun n hn => by cases hn)).mono ?_
  rintro e1 W4 ⟨rfl, hB⟩
  rw [awake_num]
  have HB4 := Lib.hid (below_step HB3.out hB)
  clear hB
  go_wp2_with fail
  go_ret
  exact ⟨rfl, HB4.out⟩
end Go.Proofs.YtcabnjinfkjnjaaDoor.XH
