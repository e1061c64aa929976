/- GIVEN CONTRACT (this session's): hist.spots, the iterator over all spots of a history, for whatever loop body that keeps what lay there. -/
import Derived.RangeFuncNested
import Derived.RangeFuncBound
import Derived.RangeFuncCalls
import Derived.RangeFuncLeaves
import Derived.Shelf.Abstract
import Derived.Shelf.RegionOpen
import Derived.WalkKit
import Derived.OwnWalkIn
import Derived.TacticsInMore
import Derived.LoopNIn
import Derived.LoopIn
import Derived.Test.YtcabnjinfkjnjaaDoorXHx0
namespace Go.Proofs.YtcabnjinfkjnjaaDoor.XH
open Go.RowKit Go.Shelf Go.Proofs.YtcabnjinfkjnjaaDoorW.PrintWords Go.Proofs.YtcabnjinfkjnjaaDoorW.PrintLast Go.Proofs.YtcabnjinfkjnjaaDoorW.PrintMore Go.Proofs.YtcabnjinfkjnjaaDoor.X
set_option linter.unusedVariables false
attribute [local go_sem] Oper.semAt_some

/-- The spots of session s, of its first j places. -/
def spotsOf (s j : Nat) : List (Nat × Nat) := (List.range j).map fun p => (s, p)
/-- The spots of the first k sessions. -/
def spotsTo (h : List (List S61)) (k : Nat) : List (Nat × Nat) := (List.range k).flatMap fun s => spotsOf s (rd_L4 h (s : Int)).length
def spotsL (h : List (List S61)) : List (Nat × Nat) := spotsTo h h.length
theorem spotsOf_succ (s j : Nat) : spotsOf s (j + 1) = spotsOf s j ++ [(s, j)] := by unfold spotsOf; rw [List.range_succ, List.map_append]; rfl
theorem spotsOf_len (s j : Nat) : (spotsOf s j).length = j := by simp [spotsOf]
theorem spotsTo_succ (h : List (List S61)) (k : Nat) : spotsTo h (k + 1) = spotsTo h k ++ spotsOf k (rd_L4 h (k : Int)).length := by
  unfold spotsTo; rw [List.range_succ, List.flatMap_append]; simp
theorem spotsOf_pre (s : Nat) {j n : Nat} (h : j ≤ n) : spotsOf s j <+: spotsOf s n := by
  unfold spotsOf
  refine List.IsPrefix.map _ ?_
  induction n with
  | zero => rw [Nat.le_zero.1 h]; exact List.prefix_refl _
  | succ n ih =>
    rcases Nat.lt_or_ge j (n + 1) with hl | hl
    · exact (ih (by omega)).trans (by rw [List.range_succ]; exact List.prefix_append _ _)
    · rw [Nat.le_antisymm h hl]; exact List.prefix_refl _
theorem spotsTo_pre (h : List (List S61)) {k n : Nat} (hk : k ≤ n) : spotsTo h k <+: spotsTo h n := by
  induction n with
  | zero => rw [Nat.le_zero.1 hk]; exact List.prefix_refl _
  | succ n ih =>
    rcases Nat.lt_or_ge k (n + 1) with hl | hl
    · exact (ih (by omega)).trans (by rw [spotsTo_succ]; exact List.prefix_append _ _)
    · rw [Nat.le_antisymm hk hl]; exact List.prefix_refl _
theorem spots_pre (h : List (List S61)) {k j : Nat} (hk : k < h.length) (hj : j ≤ (rd_L4 h (k : Int)).length) : spotsTo h k ++ spotsOf k j <+: spotsL h := by
  refine List.IsPrefix.trans ?_ (spotsTo_pre h (Nat.succ_le_of_lt hk))
  rw [spotsTo_succ]
  exact (List.prefix_append_right_inj _).2 (spotsOf_pre k hj)
theorem spots_lt (h : List (List S61)) {k j : Nat} (hk : k < h.length) (hj : j < (rd_L4 h (k : Int)).length) : (spotsTo h k ++ spotsOf k j).length < (spotsL h).length := by
  have := (spots_pre h hk (Nat.succ_le_of_lt hj)).length_le
  rw [spotsOf_succ, ← List.append_assoc, List.length_append] at this
  simp only [List.length_singleton] at this
  omega
def encSpot (x : Nat × Nat) : Array Value := #[.agg #[.int .i64 (x.1 : Int), .int .i64 (x.2 : Int)]]

theorem at_L4s {w : World} {A : Option Addr} {n : Nat} {xs : List (List S61)} (h : Kd.C (Kd.slice 61 k61) w A n xs) (k : Nat) (h1 : k < n) : ∃ ad A0 c0, A = some ad ∧ w.cell? (ad.add k) = some (.slice A0 (rd_L4 xs (k : Int)).length c0) ∧ (rd_L4 xs (k : Int)).length ≤ 9223372036854775807 := by
  obtain ⟨ad, A0, c0, e, hc, hl, hr⟩ := at_L4 h (k : Int) (by omega) (by omega)
  rw [Int.toNat_natCast] at hc
  exact ⟨ad, A0, c0, e, hc, hr.2.1⟩

set_option maxRecDepth 100000 in
set_option maxHeartbeats 4000000 in
theorem spots1_in (F : Fence) (n : Nat) (h90 : F.fn 90) (hro : F.round = none) (hn : 1 ≤ n) (l Bs : Nat) (A : Option Addr) (c0 : Nat) (h : List (List S61)) (W0 : World) (hC : Kd.C (Kd.slice 61 k61) W0 A h.length h) (J Jx : List (Nat × Nat) → World → Prop)
    (hY : ∀ pre x W, J pre W → pre.length < (spotsL h).length → YieldAt F (n - 1) Tryd.prog l (encSpot x) W fun e W' =>
      (e = .returned (.bool true) ∧ J (pre ++ [x]) W' ∧ Below W0.heap.size W W') ∨ (e = .returned (.bool false) ∧ Jx (pre ++ [x]) W'))
    (W : World) (hW0 : Below W0.heap.size W0 W) (hBs : W.cell? ⟨Bs, 0, none⟩ = some (.slice A h.length c0)) (h0 : J [] W) :
    CallsIn F n Tryd.prog 90 #[.func (.yield l) #[] #[], .pointer (some ⟨Bs, 0, none⟩)] W fun e W' => (∃ v, e = .returned v) ∧
      ((∃ ys, ys = spotsL h ∧ J ys W') ∨ (∃ pre, pre <+: spotsL h ∧ Jx pre W')) := by
  refine callsIn_of_wp Tryd.func90 rfl h90 ?_ hro
  simp only [Tryd.ntmps90, List.size_toArray, List.length_cons, List.length_nil, Nat.reduceAdd, Nat.reduceSub, Array.replicate_succ, Array.replicate_zero, List.push_toArray, List.append_toArray, List.nil_append, List.cons_append]
  have hbig : h.length ≤ 9223372036854775807 := hC.2.1
  have HC := Lib.hid hC
  clear hC
  gi_wp2
  gi_loopw [8] (fun i wr => ∃ k : Nat, k ≤ h.length ∧ i = .int .i64 k ∧ J (spotsTo h k) wr ∧ Below W0.heap.size W0 wr)
    (fun i _ => h.length - (intOf i).toNat)
  case atStart => exact ⟨0, Nat.zero_le _, rfl, h0, hW0⟩
  case round =>
    obtain ⟨k, hk, rfl, hJs, hnx⟩ := hrel
    by_cases hlt : k < h.length
    · obtain ⟨ad, A0, c1, rfl, hcell, hlen⟩ := at_L4s (Kd.C_below HC.out hnx) k hlt
      gi_wp2
      gi_loopw [15] (fun i wr => ∃ j : Nat, j ≤ (rd_L4 h (k : Int)).length ∧ i = .int .i64 j ∧ J (spotsTo h k ++ spotsOf k j) wr ∧ Below W0.heap.size W0 wr)
        (fun i _ => (rd_L4 h (k : Int)).length - (intOf i).toNat)
      case atStart => exact ⟨0, Nat.zero_le _, rfl, by simpa [spotsOf] using hJs, hnx⟩
      case round =>
        obtain ⟨j, hj, rfl, hJ2, hn2⟩ := hrel
        by_cases hlt2 : j < (rd_L4 h (k : Int)).length
        · obtain ⟨fn, tmps, assign, body, hy, hR⟩ := hY _ (k, j) _ hJ2 (spots_lt h hlt hlt2)
          dsimp only [encSpot] at hy
          gi_wp2
          refine hR.mono ?_
          rintro e W3 (⟨rfl, hJ3, hk3⟩ | ⟨rfl, hJx3⟩)
          · gi_wp2
            go_roundw
            case rel => exact ⟨j + 1, by omega, by simp, by rw [spotsOf_succ, ← List.append_assoc]; exact hJ3, hn2.trans hk3⟩
            case measure => simp [intOf]; omega
          · gi_wp2
            refine bodyPost_ret (results_none rfl _ _ _) rfl ?_
            exact ⟨⟨_, rfl⟩, .inr ⟨_, spots_pre h hlt (j := j + 1) (by omega), by rw [spotsOf_succ, ← List.append_assoc]; exact hJx3⟩⟩
        · obtain rfl : j = (rd_L4 h (k : Int)).length := by omega
          gi_wp2
          go_roundw
          case rel => exact ⟨k + 1, by omega, by simp, by rw [spotsTo_succ]; exact hJ2, hn2⟩
          case measure => simp [intOf]; omega
    · obtain rfl : k = h.length := by omega
      gi_wp2
      go_end0
      exact ⟨⟨_, rfl⟩, .inl ⟨_, rfl, hJs⟩⟩

set_option maxHeartbeats 1000000 in
theorem spots_in (F : Fence) (n : Nat) (h66 : F.fn 66) (hro : F.round = none) (a : Option Addr) (len cap : Nat) (w : World) :
    CallsIn F n Tryd.prog 66 #[.slice a len cap] w fun e w' => e = .returned (.func (.func 90) #[] #[.pointer (some ⟨w.heap.size, 0, none⟩)]) ∧ w' = w.alloc (.cells #[.slice a len cap] 49) := by
  refine callsIn_of_wp Tryd.func66 rfl h66 ?_ hro
  simp only [Tryd.ntmps66, List.size_toArray, List.length_cons, List.length_nil, Nat.reduceAdd, Nat.reduceSub, Array.replicate_succ, Array.replicate_zero, List.push_toArray, List.append_toArray, List.nil_append, List.cons_append]
  gi_wp2
  go_ret
  exact ⟨rfl, rfl⟩

theorem spots_stops (F : Fence) (n : Nat) (h90 : F.fn 90) (hro : F.round = none) (hn : 1 ≤ n) (Bs : Nat) (A : Option Addr) (c0 : Nat) (h : List (List S61)) (W0 : World) (hC : Kd.C (Kd.slice 61 k61) W0 A h.length h) (w : World) (hBs : Bs < w.heap.size) (hw : Below W0.heap.size W0 w)
    (hc : w.cell? ⟨Bs, 0, none⟩ = some (.slice A h.length c0)) :
    SeqStopsK F n Tryd.prog 90 #[.pointer (some ⟨Bs, 0, none⟩)] encSpot (Below W0.heap.size) (fun ys => ys = spotsL h) (fun pre => pre <+: spotsL h) (spotsL h).length w := fun l J Jx W hW _ _ hY h0 =>
  spots1_in F n h90 hro hn l Bs A c0 h W0 hC J Jx hY W (hw.trans (hW.mono hw.size)) ((hW.cell (p := ⟨Bs, 0, none⟩) hBs).trans hc) h0
end Go.Proofs.YtcabnjinfkjnjaaDoor.XH
