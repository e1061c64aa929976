/- GIVEN CONTRACT (this session's): hist.Flat (slices.Concat, slices.Grow), in the form in which the print states its own. -/
import Derived.Test.YtcabnjinfkjnjaaDoorXHx0
namespace Go.Proofs.YtcabnjinfkjnjaaDoor.XH
open Go.RowKit Go.Proofs.YtcabnjinfkjnjaaDoorW.PrintWords Go.Proofs.YtcabnjinfkjnjaaDoorW.PrintLast Go.Proofs.YtcabnjinfkjnjaaDoorW.PrintMore Go.Proofs.YtcabnjinfkjnjaaDoor.X
set_option linter.unusedVariables false

def GrowPost (w : World) (e : Ending) (w' : World) : Prop := ∃ A c, e = .returned (.slice A 0 c) ∧ Kd.R k61 61 w' w.heap.size (fun _ => True) (.slice A 0 c) ([] : List S61) ∧ Below w.heap.size w w'
set_option maxRecDepth 100000 in
set_option maxHeartbeats 1000000 in
theorem grow_any (n : Int) (h0 : 0 ≤ n) (hl : n.toNat * 32 ≤ 140737488355328) (w : World) : Calls Tryd.prog 89 #[.slice none 0 0, .int .i64 n] w (GrowPost w) := by
  by_cases hn : n = 0
  · subst hn
    go_enter Tryd.func89, Tryd.ntmps89
    go_wp2
    go_ret
    exact ⟨none, 0, rfl, Kd.R_nil _ _ _ _ _, Below.refl _ _⟩
  · have hn1 : 0 < n := by omega
    have hb : n ≤ 4398046511104 := by omega
    clear hn
    go_enter Tryd.func89, Tryd.ntmps89
    go_wp2_with ((with_reducible refine gate_builtin (b := .append) (xs := #[.tmp 20, .tmp 21]) rfl ?_); refine Kd.R_append_zeros k61 (w0 := w) w.heap.size rfl (.tmp 20) (.tmp 21) 51 3 61 (.agg #[(.bool false), (.string ⟨#[]⟩), (.int .i64 0)]) 32 rfl Tryd.underlying51 Tryd.underlying3 info61 rfl (by decide) (by omega) (.slice none 0 0) [] z61 n (fun _ => True) rfl rfl (k61_mkM _ _ _ z61) (fun _ _ => trivial) (Kd.R_nil _ _ _ _ _) h0 (Below.refl _ _) (Nat.le_refl _) (by simpa using hl) ?_; intro v1 w1 hR hB hg hat; obtain ⟨A1, c1, rfl⟩ := Kd.R_slice hR; have HR := Aside0.mk hR; have HB := Aside0.mk hB; clear hR hB hg hat)
    go_ret
    have hR := Kd.R_take (m := 0) HR.out (Nat.zero_le _)
    rw [List.take_zero] at hR
    exact ⟨A1, c1, rfl, hR, HB.out⟩

def sumTo (h : List (List S61)) (k : Nat) : Nat := (h.take k).flatten.length
theorem take_flat (h : List (List S61)) {k : Nat} (hk : k < h.length) : (h.take (k + 1)).flatten = (h.take k).flatten ++ rd_L4 h (k : Int) := by
  rw [List.take_succ_eq_append_getElem hk, List.flatten_append]
  have : rd_L4 h (k : Int) = h[k] := by
    unfold rd_L4
    rw [Int.toNat_natCast, List.getD_eq_getElem?_getD, List.getElem?_eq_getElem hk]
    rfl
  rw [this]
  simp
theorem sumTo_succ (h : List (List S61)) {k : Nat} (hk : k < h.length) : sumTo h (k + 1) = sumTo h k + (rd_L4 h (k : Int)).length := by
  unfold sumTo
  rw [take_flat h hk, List.length_append]
theorem sumTo_all (h : List (List S61)) : sumTo h h.length = h.flatten.length := by unfold sumTo; rw [List.take_length]
theorem sumTo_le (h : List (List S61)) (k : Nat) : sumTo h k ≤ h.flatten.length := by
  unfold sumTo
  have : h.flatten = (h.take k).flatten ++ (h.drop k).flatten := by rw [← List.flatten_append, List.take_append_drop]
  rw [this, List.length_append]
  exact Nat.le_add_right _ _
theorem at_L4n (w : World) (A : Option Addr) (n : Nat) (xs : List (List S61)) (h : Kd.C (Kd.slice 61 k61) w A n xs) (k : Nat) (h1 : k < n) : ∃ ad A0 c0, A = some ad ∧ w.cell? (ad.add k) = some (.slice A0 (rd_L4 xs (k : Int)).length c0) ∧ (rd_L4 xs (k : Int)).length ≤ 9223372036854775807 ∧ k61.C w A0 (rd_L4 xs (k : Int)).length (rd_L4 xs (k : Int)) := by
  obtain ⟨ad, A0, c0, e, hc, hl, hr⟩ := at_L4 h (k : Int) (by omega) (by omega)
  rw [Int.toNat_natCast] at hc
  exact ⟨ad, A0, c0, e, hc, hr.2.1, hr⟩
def FlatPost (w : World) (r : List S61) (e : Ending) (w' : World) : Prop := ∃ v, e = .returned v ∧ Kd.R k61 61 w' w.heap.size (fun _ => True) v r ∧ Below w.heap.size w w'
set_option maxRecDepth 100000 in
set_option maxHeartbeats 4000000 in
theorem concat_any (A0 : Option Addr) (c0 : Nat) (h : List (List S61)) (hb : h.flatten.length ≤ 4398046511104) (w : World) (hr0 : Kd.C (Kd.slice 61 k61) w A0 h.length h) : Calls Tryd.prog 65 #[.slice A0 h.length c0] w (FlatPost w h.flatten) := by
  have hbig : h.length ≤ 9223372036854775807 := hr0.2.1
  have HC := Lib.hid hr0
  clear hr0
  go_enter Tryd.func65, Tryd.ntmps65
  go_wp2
  go_loop [3, 11] (fun s i => ∃ k : Nat, k ≤ h.length ∧ i = .int .i64 k ∧ s = .int .i64 (sumTo h k : Nat)) (fun _ i => h.length - (intOf i).toNat)
  case atStart => exact ⟨0, Nat.zero_le _, rfl, rfl⟩
  case round =>
    obtain ⟨k, hk, rfl, rfl⟩ := hrel
    by_cases hlt : k < h.length
    · obtain ⟨ad, A1, c1, rfl, hcell, hlen, _⟩ := at_L4n w A0 h.length h HC.out k hlt
      have hs := sumTo_succ h hlt
      have hs2 := sumTo_le h (k + 1)
      have hle : sumTo h k + (rd_L4 h (k : Int)).length ≤ 4398046511104 := by omega
      have HS := Lib.hid hs
      clear hs hs2
      have hng : decide (((sumTo h k : Nat) : Int) + ((rd_L4 h (k : Int)).length : Int) < 0) = false := decide_eq_false (by omega)
      go_wp2
      go_round
      case rel => exact ⟨k + 1, by omega, by go_num, by rw [HS.out]; go_num⟩
      case measure => simp [intOf]; omega
    · obtain rfl : k = h.length := by omega
      have hs := sumTo_all h
      have hle : sumTo h h.length ≤ 4398046511104 := by omega
      have HS := Lib.hid hs
      clear hs
      go_wp2_with (go_at_call 89; refine (grow_any _ (by omega) (by omega) _).mono ?_; rintro e w2 ⟨A2, c2, rfl, hR, hB⟩; have HR := Aside0.mk hR; have HB := Aside0.mk hB; clear hR hB)
      go_loopw [6, 27] (fun v i wr => ∃ k : Nat, k ≤ h.length ∧ i = .int .i64 k ∧ Aside0 (Kd.R k61 61 wr w.heap.size (fun _ => True) v (h.take k).flatten) ∧ Aside0 (Below w.heap.size w wr)) (fun _ i _ => h.length - (intOf i).toNat)
      case atStart => exact ⟨0, Nat.zero_le _, rfl, ⟨by simpa using HR.out⟩, HB⟩
      case round =>
        clear HR HB
        obtain ⟨k, hk2, rfl, HR, HB⟩ := hrel
        by_cases hlt2 : k < h.length
        · obtain ⟨ad, A1, c1, rfl, hcell, hlen, hrow⟩ := at_L4n _ A0 h.length h (Kd.C_below HC.out HB.out) k hlt2
          have HROW := Lib.hid hrow
          have hs := sumTo_succ h hlt2
          have hs2 := sumTo_le h (k + 1)
          have hle2 : sumTo h k + (rd_L4 h (k : Int)).length ≤ 4398046511104 := by omega
          have hbase := HB.out.size
          have HT := Lib.hid (take_flat h hlt2)
          clear hrow hs hs2
          go_wp2_with ((with_reducible refine gate_builtin (b := .append) (xs := #[.tmp 31, .tmp 32]) rfl ?_); refine Kd.R_append_rows k61 (Rr := k61.K wr) (w0 := w) w.heap.size rfl (.tmp 31) (.tmp 32) 51 61 (.agg #[(.bool false), (.string ⟨#[]⟩), (.int .i64 0)]) 32 rfl Tryd.underlying51 info61 rfl (by decide) (by omega) _ (h.take k).flatten (rd_L4 h (k : Int)) A1 (rd_L4 h (k : Int)).length c1 (fun _ => True) (fun _ => False) rfl rfl HR.out HROW.out (fun x cs hx => by rw [k61_open hx]; exact k61_mkM _ _ _ x) (fun _ hf => hf.elim) (fun _ _ => trivial) HB.out hbase (by have : (h.take k).flatten.length = sumTo h k := rfl; omega) ?_; intro v1 w1 hR1 hB1 hg hat; have HR1 := Aside0.mk hR1; have HB1 := Aside0.mk hB1; clear hR1 hB1 hg hat)
          go_roundw
          case rel => exact ⟨k + 1, by omega, by go_num, ⟨by rw [HT.out]; exact HR1.out⟩, HB1⟩
          case measure => simp [intOf]; omega
        · obtain rfl : k = h.length := by omega
          go_wp2
          go_ret
          exact ⟨_, rfl, by have := HR.out; rwa [List.take_length] at this, HB.out⟩
set_option maxHeartbeats 1000000 in
theorem flat_any (A0 : Option Addr) (c0 : Nat) (h : List (List S61)) (hb : h.flatten.length ≤ 4398046511104) (w : World) (hr0 : Kd.C (Kd.slice 61 k61) w A0 h.length h) : Calls Tryd.prog 29 #[.slice A0 h.length c0] w (FlatPost w h.flatten) := by
  have HC := Lib.hid (concat_any A0 c0 h hb w hr0)
  clear hr0
  go_enter Tryd.func29, Tryd.ntmps29
  go_wp2_with (go_at_call 65; refine HC.out.mono ?_; rintro e w2 ⟨v, rfl, hR, hB⟩; have HR := Aside0.mk hR; have HB := Aside0.mk hB; clear hR hB)
  go_ret
  exact ⟨v, rfl, HR.out, HB.out⟩
def hist_Flat.f (h : List (List S61)) : Option (List S61) := if h.flatten.length ≤ 4398046511104 then some h.flatten else none
theorem hist_Flat.calls (A0 : Option Addr) (c0 : Nat) (l0 : List (List S61)) (r : List S61) (w : World) (hr0 : Kd.C (Kd.slice 61 k61) w A0 l0.length l0) (hc0 : l0.length ≤ c0) (h : hist_Flat.f l0 = some r) :
    Calls Tryd.prog 29 #[.slice A0 l0.length c0] w fun e w' => ∃ v0_ : Value, e = .returned v0_ ∧ Kd.R k61 61 w' w.heap.size (fun _ => True) v0_ r ∧ Below w.heap.size w w' := by
  unfold hist_Flat.f at h
  split at h
  · rename_i hb
    rw [← Option.some.inj h]
    exact flat_any A0 c0 l0 hb w hr0
  · cases h
end Go.Proofs.YtcabnjinfkjnjaaDoor.XH
