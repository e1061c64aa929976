/- TELL, by hand: its line of words, its line of numbers. -/
import Derived.Test.YtcabnjinfkjnjaaDoorGBuilder
import Derived.Test.YtcabnjinfkjnjaaDoorXHx0
import Derived.Test.YtcabnjinfkjnjaaDoorXNx1
import Derived.Test.YtcabnjinfkjnjaaDoorShelfJoin
import Derived.Lib.QuietBelow
import Derived.Lib.ItoaLen
import Derived.Lib.JoinLaws
namespace Go.Proofs.YtcabnjinfkjnjaaDoor.XH
open Go.RowKit Go.Proofs.YtcabnjinfkjnjaaDoorW.PrintWords Go.Proofs.YtcabnjinfkjnjaaDoorW.PrintLast Go.Proofs.YtcabnjinfkjnjaaDoorW.PrintMore Go.Proofs.YtcabnjinfkjnjaaDoor.X
set_option linter.unusedVariables false
def StrIs (s : ByteArray) (w : World) (e : Ending) (w' : World) : Prop := e = .returned (.string s) ∧ Below w.heap.size w w'
def lineV (xs : List ByteArray) : ByteArray := ⟨(Lib.join (xs.map (·.data.toList)) [32]).toArray⟩ ++ ⟨#[10]⟩
theorem size_one (c : UInt8) : (⟨#[c]⟩ : ByteArray).size = 1 := rfl
set_option maxHeartbeats 1000000 in
set_option maxRecDepth 100000 in
theorem line_any (bk c : Nat) (xs : List ByteArray) (w : World) (hcells : ∀ (j : Nat) x, xs[j]? = some x → w.cell? ⟨bk, j, none⟩ = some (.string x)) (hbk : bk < w.heap.size) (hN : xs.length ≤ 140737488355328) (hcap : xs.length ≤ c) (hlen : (Lib.join (xs.map (·.data.toList)) [32]).length ≤ 140737488355328) :
    Calls Tryd.prog 23 #[.slice (some ⟨bk, 0, none⟩) xs.length c] w (StrIs (lineV xs) w) := by
  have CJ := Lib.hid (Tryd.strings_Join bk 0 c xs ⟨#[32]⟩ w (fun j x h => by rw [Nat.zero_add]; exact hcells j x h) hbk hN hcap hlen)
  have hsz : (⟨(Lib.join (xs.map (·.data.toList)) [32]).toArray⟩ : ByteArray).size ≤ 140737488355328 := by simpa [ByteArray.size] using hlen
  unfold lineV
  generalize (⟨(Lib.join (xs.map (·.data.toList)) [32]).toArray⟩ : ByteArray) = J at CJ hsz ⊢
  clear hcells hlen
  go_enter Tryd.func23, Tryd.ntmps23
  have h1 := size_one 10
  go_wp2_with (go_at_call 64; refine CJ.out.mono ?_; rintro e w2 ⟨rfl, hB⟩; have HB := Lib.hid hB; clear hB)
  go_ret
  exact ⟨rfl, HB.out⟩

theorem at_int {w : World} {A : Option Addr} {xs : List Int} {n : Nat} (h : (Kd.int .i64).C w A n xs) {k : Nat} (hk : k < xs.length) : ∃ ad, A = some ad ∧ w.cell? (ad.add k) = some (.int .i64 (xs.getD k 0)) := by
  have hn := h.1
  obtain ⟨ad, e, hc⟩ := h.2.2 (by omega)
  obtain ⟨c, _, hr, hcell⟩ := hc k _ (List.getElem?_eq_getElem hk)
  refine ⟨ad, e, ?_⟩
  have hr' : c = [.int .i64 xs[k]] := hr
  subst hr'
  have := hcell 0 _ rfl
  rw [List.getD_eq_getElem?_getD, List.getElem?_eq_getElem hk]
  have e2 : k * (Kd.int .i64).sz + 0 = k := by show k * 1 + 0 = k; omega
  rw [e2] at this
  exact this
theorem at_str {w : World} {A : Option Addr} {xs : List ByteArray} {n : Nat} (h : Kd.string.C w A n xs) {k : Nat} (hk : k < xs.length) : ∃ ad, A = some ad ∧ w.cell? (ad.add k) = some (.string xs[k]) := by
  have hn := h.1
  obtain ⟨ad, e, hc⟩ := h.2.2 (by omega)
  obtain ⟨c, _, hr, hcell⟩ := hc k _ (List.getElem?_eq_getElem hk)
  refine ⟨ad, e, ?_⟩
  have hr' : c = [.string xs[k]] := hr
  subst hr'
  have := hcell 0 _ rfl
  have e2 : k * Kd.string.sz + 0 = k := by show k * 1 + 0 = k; omega
  rw [e2] at this
  exact this
def itoaV (n : Int) : ByteArray := ⟨(Lib.itoa n).toArray⟩
theorem put_is (n : Int) (h0 : -9223372036854775808 ≤ n) (h1 : n ≤ 9223372036854775807) : num_Put.f n = some (itoaV n) := by
  unfold num_Put.f strconv_Itoa.f; rw [if_pos h0, if_pos h1]; rfl
def numW (name : ByteArray) (l : List Int) : List ByteArray := name :: l.map itoaV
theorem info9 : (Tryd.prog.info? 9).map (fun i => (i.zero, i.size, i.bytes)) = some (some (.string ⟨#[]⟩), 1, 16) := by kernel_rfl
/-- A new row with room, and no element yet. -/
theorem R_room {α : Type} (d : Kd α) (z : Value) (c e : Nat) (W : World) (base : Nat) (hb : base ≤ W.heap.size) (hc : c ≤ maxLen) (h1 : d.sz = 1) : d.R e (W.alloc (.cells (madeCells #[z] c) e)) base (fun _ => True) (.slice (some ⟨W.heap.size, 0, none⟩) 0 c) [] := by
  refine ⟨fun _ _ => trivial, [], ?_, Reps.none _ _⟩
  refine ⟨by simp, .inr ⟨W.heap.size, c, madeCells #[z] c, rfl, hb, heap_alloc_new W _, Nat.zero_le _, hc, by rw [size_madeCells, h1]; simp, by simp⟩⟩
theorem own_str {w : World} {base : Nat} {v : Value} {xs : List ByteArray} (h : Kd.string.R 9 w base (fun _ => True) v xs) (h0 : xs ≠ []) : ∃ g c, v = .slice (some ⟨g, 0, none⟩) xs.length c ∧ xs.length ≤ c ∧ g < w.heap.size ∧ ∀ (j : Nat) x, xs[j]? = some x → w.cell? ⟨g, j, none⟩ = some (.string x) := by
  have hr := h
  obtain ⟨_, inner, hown, hreps⟩ := h
  rcases hown.2 with ⟨rfl, hn⟩ | ⟨g, cap, cur, rfl, _, hb, hle, _⟩
  · exact absurd (List.eq_nil_of_length_eq_zero hn) h0
  · refine ⟨g, cap, rfl, hle, (Array.getElem?_eq_some_iff.1 hb).1, fun j x hj => ?_⟩
    have hj' := (List.getElem?_eq_some_iff.1 hj)
    obtain ⟨hlt, hx⟩ := hj'
    obtain ⟨ad, had, hc⟩ := at_str (Kd.R_reads' hr).2.2 hlt
    cases had
    rw [← hx, ← hc]
    cases j with
    | zero => rfl
    | succ j =>
      unfold Addr.add
      rw [if_neg (by omega)]
      show w.cell? ⟨g, j + 1, none⟩ = w.cell? ⟨g, 0 + (j + 1), none⟩
      rw [Nat.zero_add]
def numB (name : List UInt8) (l : List Int) : List UInt8 := name ++ (l.flatMap (fun n => 32 :: Lib.itoa n) ++ [10])
theorem join_num (name : ByteArray) (l : List Int) : Lib.join ((numW name l).map (·.data.toList)) [32] = name.data.toList ++ l.flatMap (fun n => 32 :: Lib.itoa n) := by
  unfold numW
  rw [List.map_cons, Lib.join_cons]
  unfold Lib.joinTail
  rw [List.map_map, List.map_map, List.flatMap_def]
  rfl
theorem lineV_num (name : ByteArray) (l : List Int) : lineV (numW name l) = ⟨(numB name.data.toList l).toArray⟩ := by
  unfold lineV numB
  rw [join_num, ← List.append_assoc]
  apply ByteArray.ext
  simp
theorem nums_len (l : List Int) (h : ∀ n ∈ l, -9223372036854775808 ≤ n ∧ n ≤ 9223372036854775807) : (l.flatMap (fun n => 32 :: Lib.itoa n)).length ≤ 22 * l.length := by
  induction l with
  | nil => exact Nat.le_refl _
  | cons n l ih =>
    have h1 := Lib.itoa_length_le n (h n (.head _)).1 (h n (.head _)).2
    have h2 := ih (fun m hm => h m (.tail _ hm))
    rw [List.flatMap_cons, List.length_append, List.length_cons, List.length_cons]
    omega
theorem join_len (name : ByteArray) (l : List Int) (h : ∀ n ∈ l, -9223372036854775808 ≤ n ∧ n ≤ 9223372036854775807) : (Lib.join ((numW name l).map (·.data.toList)) [32]).length ≤ name.size + 22 * l.length := by
  rw [join_num, List.length_append]
  have := nums_len l h
  have e : name.data.toList.length = name.size := Array.length_toList
  omega
set_option maxHeartbeats 2000000 in
set_option maxRecDepth 100000 in
theorem numbers_any (A : Option Addr) (c : Nat) (name : ByteArray) (l : List Int) (w : World) (hT : Tabs w) (hC : (Kd.int .i64).C w A l.length l) (hl : l.length ≤ 1000000) (hn : name.size ≤ 1000000) (hi : ∀ n ∈ l, -9223372036854775808 ≤ n ∧ n ≤ 9223372036854775807) :
    Calls Tryd.prog 25 #[.string name, .slice A l.length c] w (StrIs (lineV (numW name l)) w) := by
  have HT := Lib.hid hT
  have HC := Lib.hid hC
  have HI := Lib.hid hi
  clear hT hC hi
  go_enter Tryd.func25, Tryd.ntmps25
  have hmk0 := run_make_room (P := Tryd.prog) 35 9 (.string ⟨#[]⟩) 16 Tryd.underlying35 info9 rfl .i64 .i64 (l.length + 1) (by omega) (by omega)
  have hmk := hmk0 w
  simp only [Int.natCast_add, Int.natCast_one] at hmk
  have hR0 := R_room Kd.string (.string ⟨#[]⟩) (l.length + 1) 9 w w.heap.size (Nat.le_refl _) (by unfold maxLen; omega) rfl
  have hB0 : Below w.heap.size w (w.alloc (.cells (madeCells #[.string ⟨#[]⟩] (l.length + 1)) 9)) := below_alloc (Below.refl _ _) _
  generalize w.alloc (.cells (madeCells #[.string ⟨#[]⟩] (l.length + 1)) 9) = W1 at hmk hR0 hB0
  have HR0 := Lib.hid hR0
  have HB0 := Lib.hid hB0
  clear hmk0 hR0 hB0
  go_wp2_with ((with_reducible refine gate_builtin (b := .append) (xs := #[.tmp 12, .tmp 14]) rfl ?_); at_builtin; refine Kd.R_append Kd.string (w0 := w) w.heap.size rfl (.tmp 12) (.tmp 14) 35 9 (.string ⟨#[]⟩) 16 rfl Tryd.underlying35 info9 rfl (by decide) (by omega) _ [] name [.string name] (fun _ => True) (fun _ => False) rfl rfl rfl (fun _ hk => hk.elim) (fun _ _ => trivial) HR0.out HB0.out HB0.out.size (by simp) ?_; intro v1 w1 hR hB hg hat; have HR := Aside0.mk hR; have HB := Aside0.mk hB; clear hR hB hg hat)
  go_loopw [5, 18] (fun v i wr => ∃ k : Nat, k ≤ l.length ∧ i = .int .i64 k ∧ Aside0 (Kd.string.R 9 wr w.heap.size (fun _ => True) v (numW name (l.take k))) ∧ Aside0 (Below w.heap.size w wr)) (fun _ i _ => l.length - (intOf i).toNat)
  case atStart => exact ⟨0, Nat.zero_le _, rfl, ⟨by simpa [numW] using HR.out⟩, HB⟩
  case round =>
    clear HR HB
    obtain ⟨k, hk, rfl, HR, HB⟩ := hrel
    by_cases hlt : k < l.length
    · obtain ⟨ad, rfl, hcell⟩ := at_int (Kd.C_below HC.out HB.out) hlt
      have hin := HI.out (l.getD k 0) (by rw [List.getD_eq_getElem?_getD, List.getElem?_eq_getElem hlt]; exact List.getElem_mem hlt)
      have HTK := Lib.hid (show numW name (l.take (k + 1)) = numW name (l.take k) ++ [itoaV (l.getD k 0)] by
        unfold numW
        rw [List.take_add_one, List.getElem?_eq_getElem hlt, List.getD_eq_getElem?_getD, List.getElem?_eq_getElem hlt, List.map_append]
        rfl)
      generalize l.getD k 0 = n at hcell hin HTK
      have CP := Lib.hid (fun (W : World) (hT : Tabs W) => num_Put.calls n _ W hT (put_is n hin.1 hin.2))
      have hbase := HB.out.size
      clear hin
      go_wp2_with (first
        | (go_at_call 48; refine (CP.out _ (HT.out.below HB.out)).mono ?_; rintro e w2 ⟨rfl, hB⟩; have HB2 := Aside0.mk (below_step HB.out hB); have HR2 := Aside0.mk (Kd.R_below HR.out hB); clear hB)
        | ((with_reducible refine gate_builtin (b := .append) (xs := #[.tmp 22, .tmp 25]) rfl ?_); at_builtin; go_loud (refine Kd.R_append Kd.string (w0 := w) w.heap.size rfl (.tmp 22) (.tmp 25) 35 9 (.string ⟨#[]⟩) 16 rfl Tryd.underlying35 info9 rfl (by decide) (by omega) _ (numW name (l.take k)) (itoaV n) [.string (itoaV n)] (fun _ => True) (fun _ => False) rfl rfl rfl (fun _ hk => hk.elim) (fun _ _ => trivial) HR2.out HB2.out HB2.out.size (by unfold numW; simp; omega) ?_); intro v1 w1 hR hB hg hat; have HR3 := Aside0.mk hR; have HB3 := Aside0.mk hB; clear hR hB hg hat))
      go_roundw
      case rel => exact ⟨k + 1, by omega, by go_num, ⟨by rw [HTK.out]; exact HR3.out⟩, HB3⟩
      case measure => simp [intOf]; omega
    · obtain rfl : k = l.length := by omega
      have hR := HR.out
      rw [List.take_length] at hR
      obtain ⟨g, cp, rfl, hcp, hg, hcells⟩ := own_str hR (by simp [numW])
      have CL := Lib.hid (line_any g cp (numW name l) wr hcells hg (by unfold numW; simp; omega) hcp (by have := join_len name l HI.out; omega))
      clear hR hcells HR HC HR0 hmk
      go_wp2_with (go_at_call 23; go_loud (refine CL.out.mono ?_); rintro e w2 ⟨rfl, hB⟩; have HB2 := Lib.hid (below_step HB.out hB); clear hB)
      go_ret
      exact ⟨rfl, HB2.out⟩
end Go.Proofs.YtcabnjinfkjnjaaDoor.XH
