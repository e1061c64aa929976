/- GIVEN CONTRACTS (this session's): show.Op and show.Text, in the form in which the print states its own. -/
import Derived.Test.YtcabnjinfkjnjaaDoorGRight
import Derived.Test.YtcabnjinfkjnjaaDoorGBuilder
import Derived.Test.YtcabnjinfkjnjaaDoorXNx1
import Derived.Lib.QuietBelow
import Derived.Lib.ItoaLen
namespace Go.Proofs.YtcabnjinfkjnjaaDoor.XH
open Go.RowKit Go.Sort Go.Proofs.YtcabnjinfkjnjaaDoorW.PrintWords Go.Proofs.YtcabnjinfkjnjaaDoorW.PrintLast Go.Proofs.YtcabnjinfkjnjaaDoorW.PrintMore Go.Proofs.YtcabnjinfkjnjaaDoor.X
set_option linter.unusedVariables false

def digitsOf (n : Int) : ByteArray := ⟨(Lib.itoa n).toArray⟩
def opText (a : Bool) (v : ByteArray) (n : Int) : ByteArray := (if a = true then (⟨#[119]⟩ : ByteArray) else ⟨#[114]⟩) ++ ⟨#[58]⟩ ++ v ++ ⟨#[61]⟩ ++ digitsOf n
def StrPost (s : ByteArray) (w : World) (e : Ending) (w' : World) : Prop := e = .returned (.string s) ∧ Below w.heap.size w w'
theorem digits_size (n : Int) (h0 : -9223372036854775808 ≤ n) (h1 : n ≤ 9223372036854775807) : (digitsOf n).size ≤ 21 := by
  have := Lib.itoa_length_le n h0 h1
  show (Lib.itoa n).toArray.size ≤ 21
  simpa using this
set_option maxHeartbeats 2000000 in
set_option maxRecDepth 100000 in
theorem op_true (v : ByteArray) (n : Int) (w : World) (hT : Tabs w) (hv : v.size ≤ 1000000) (h0 : -9223372036854775808 ≤ n) (h1 : n ≤ 9223372036854775807) :
    Calls Tryd.prog 55 #[.agg #[.bool true, .string v, .int .i64 n]] w (StrPost (opText true v n) w) := by
  have mixed : Tryd.prog.follows .mixedOrders = true := by kernel_rfl
  have hf : num_Put.f n = some (digitsOf n) := by unfold num_Put.f strconv_Itoa.f; rw [if_pos h0, if_pos h1]; rfl
  have CP := Lib.hid (fun (W : World) (hT : Tabs W) => num_Put.calls n _ W hT hf)
  have HT := Lib.hid hT
  have hs1 : (9223372036854775807 < 2 + v.size) = False := by simp; omega
  have hs2 : (9223372036854775807 < 2 + v.size + 1) = False := by simp; omega
  generalize hd : digitsOf n = r at CP
  have hr : r.size ≤ 21 := by rw [← hd]; exact digits_size n h0 h1
  have hs3 : (9223372036854775807 < 2 + v.size + 1 + r.size) = False := by simp; omega
  have HD := Lib.hid hd
  clear hT hf hd
  go_enter Tryd.func55, Tryd.ntmps55
  go_wp2
  obtain ⟨W0, hW0⟩ : ∃ W0, w.alloc (.cells #[.bool true, .string v, .int .i64 n] 61) = W0 := ⟨_, rfl⟩
  have c1 : W0.cell? ⟨w.heap.size, 1, none⟩ = some (.string v) := by rw [← hW0]; simp
  have c2 : W0.cell? ⟨w.heap.size, 2, none⟩ = some (.int .i64 n) := by rw [← hW0]; simp
  have hTW : Tabs W0 := by rw [← hW0]; exact HT.out.alloc _
  have hB0 : Below w.heap.size w W0 := by rw [← hW0]; exact below_alloc (Below.refl _ _) _
  rw [hW0]
  clear hW0
  have r1 := cell_regrown c1
  have r2 := cell_regrown c2
  have HB0 := Lib.hid hB0
  have cQ : ∀ d os, Calls Tryd.prog 48 #[.int .i64 n] (grow (redrawn W0 d) os) fun e w'' => e = .returned (.string r) ∧ ∃ p : Regrown, w'' = grow (redrawn W0 p.d) p.os := fun d os => Calls.regrown_of (CP.out _ (hTW.below (below_regrown W0 d os)))
  clear hB0 hTW
  refine wp_region_quiet_below (by assumption) (by kernel_rfl) ?_
  repeat (quiet_step (first | exact cQ _ _))
  refine wpQuiet_nil ?_
  intro _ hw'
  obtain ⟨⟨dq, osq⟩, hw''⟩ := hw'
  subst hw''
  have HB1 := Lib.hid (below_step HB0.out (below_regrown W0 dq osq))
  go_wp2
  go_ret
  refine ⟨?_, HB1.out⟩
  rw [← HD.out]
  rfl
set_option maxHeartbeats 2000000 in
set_option maxRecDepth 100000 in
theorem op_false (v : ByteArray) (n : Int) (w : World) (hT : Tabs w) (hv : v.size ≤ 1000000) (h0 : -9223372036854775808 ≤ n) (h1 : n ≤ 9223372036854775807) :
    Calls Tryd.prog 55 #[.agg #[.bool false, .string v, .int .i64 n]] w (StrPost (opText false v n) w) := by
  have mixed : Tryd.prog.follows .mixedOrders = true := by kernel_rfl
  have hf : num_Put.f n = some (digitsOf n) := by unfold num_Put.f strconv_Itoa.f; rw [if_pos h0, if_pos h1]; rfl
  have CP := Lib.hid (fun (W : World) (hT : Tabs W) => num_Put.calls n _ W hT hf)
  have HT := Lib.hid hT
  have hs1 : (9223372036854775807 < 2 + v.size) = False := by simp; omega
  have hs2 : (9223372036854775807 < 2 + v.size + 1) = False := by simp; omega
  generalize hd : digitsOf n = r at CP
  have hr : r.size ≤ 21 := by rw [← hd]; exact digits_size n h0 h1
  have hs3 : (9223372036854775807 < 2 + v.size + 1 + r.size) = False := by simp; omega
  have HD := Lib.hid hd
  clear hT hf hd
  go_enter Tryd.func55, Tryd.ntmps55
  go_wp2
  obtain ⟨W0, hW0⟩ : ∃ W0, w.alloc (.cells #[.bool false, .string v, .int .i64 n] 61) = W0 := ⟨_, rfl⟩
  have c1 : W0.cell? ⟨w.heap.size, 1, none⟩ = some (.string v) := by rw [← hW0]; simp
  have c2 : W0.cell? ⟨w.heap.size, 2, none⟩ = some (.int .i64 n) := by rw [← hW0]; simp
  have hTW : Tabs W0 := by rw [← hW0]; exact HT.out.alloc _
  have hB0 : Below w.heap.size w W0 := by rw [← hW0]; exact below_alloc (Below.refl _ _) _
  rw [hW0]
  clear hW0
  have r1 := cell_regrown c1
  have r2 := cell_regrown c2
  have HB0 := Lib.hid hB0
  have cQ : ∀ d os, Calls Tryd.prog 48 #[.int .i64 n] (grow (redrawn W0 d) os) fun e w'' => e = .returned (.string r) ∧ ∃ p : Regrown, w'' = grow (redrawn W0 p.d) p.os := fun d os => Calls.regrown_of (CP.out _ (hTW.below (below_regrown W0 d os)))
  clear hB0 hTW
  refine wp_region_quiet_below (by assumption) (by kernel_rfl) ?_
  repeat (quiet_step (first | exact cQ _ _))
  refine wpQuiet_nil ?_
  intro _ hw'
  obtain ⟨⟨dq, osq⟩, hw''⟩ := hw'
  subst hw''
  have HB1 := Lib.hid (below_step HB0.out (below_regrown W0 dq osq))
  go_wp2
  go_ret
  refine ⟨?_, HB1.out⟩
  rw [← HD.out]
  rfl
theorem op_any (a : Bool) (v : ByteArray) (n : Int) (w : World) (hT : Tabs w) (hv : v.size ≤ 1000000) (h0 : -9223372036854775808 ≤ n) (h1 : n ≤ 9223372036854775807) :
    Calls Tryd.prog 55 #[.agg #[.bool a, .string v, .int .i64 n]] w (StrPost (opText a v n) w) := by
  cases a
  · exact op_false v n w hT hv h0 h1
  · exact op_true v n w hT hv h0 h1
def okOp (x : S61) : Bool := decide (x.f1.size ≤ 1000000) && (decide (-9223372036854775808 ≤ x.f2) && decide (x.f2 ≤ 9223372036854775807))
def show_Op.f (a : Bool) (v : ByteArray) (n : Int) : Option ByteArray := if okOp ⟨a, v, n⟩ = true then some (opText a v n) else none
theorem okOp_iff (x : S61) : okOp x = true ↔ x.f1.size ≤ 1000000 ∧ -9223372036854775808 ≤ x.f2 ∧ x.f2 ≤ 9223372036854775807 := by
  unfold okOp
  simp only [Bool.and_eq_true, decide_eq_true_eq]
theorem show_Op.calls (a0_0 : Bool) (a0_1 : ByteArray) (a0_2 : Int) (r : ByteArray) (w : World) (hT : Tabs w) (h : show_Op.f a0_0 a0_1 a0_2 = some r) :
    Calls Tryd.prog 55 #[.agg #[.bool a0_0, .string a0_1, .int .i64 a0_2]] w fun e w' => e = .returned (.string r) ∧ Below w.heap.size w w' := by
  unfold show_Op.f at h
  split at h
  · rename_i hc
    obtain ⟨h1, h2, h3⟩ := (okOp_iff _).1 hc
    rw [← Option.some.inj h]
    exact op_any a0_0 a0_1 a0_2 w hT h1 h2 h3
  · cases h

def opBytes (x : S61) : List UInt8 := (opText x.f0 x.f1 x.f2).data.toList
/-- The bytes of a session's first j operations. -/
def lineTo (l : List S61) : Nat → List UInt8
  | 0 => []
  | j + 1 => lineTo l j ++ ((if j = 0 then [] else [32]) ++ opBytes (rd_T61 l (j : Int)))
def textTo (h : List (List S61)) : Nat → List UInt8
  | 0 => []
  | k + 1 => textTo h k ++ (lineTo (rd_L4 h (k : Int)) (rd_L4 h (k : Int)).length ++ [10])
theorem isBuilder_below {T : TypeId} {B b : Nat} {bs : List Value} {W W' : World} (h : Lib.IsBuilder T 5 B b bs W) (hB : Below W.heap.size W W') : Lib.IsBuilder T 5 B b bs W' := by
  have mv : ∀ p, Lib.BuilderAt T 5 B b p bs W → Lib.BuilderAt T 5 B b p bs W' := by
    rintro p ⟨h1, v, hbk, hown, hne⟩
    have hlt : b < W.heap.size := (Array.getElem?_eq_some_iff.1 hbk).1
    exact ⟨h1, v, (hB.block b hlt).trans hbk, own_move hown (fun k hk => hB.block k (own_lt hown k hk)), hne⟩
  rcases h with h | h
  · exact .inl (mv _ h)
  · exact .inr (mv _ h)
theorem opBytes_len {x : S61} (h : okOp x = true) : (opBytes x).length ≤ 1000024 := by
  obtain ⟨h1, h2, h3⟩ := (okOp_iff x).1 h
  have hd := digits_size x.f2 h2 h3
  have : (opBytes x).length = (opText x.f0 x.f1 x.f2).size := Array.length_toList
  rw [this]
  unfold opText
  split <;> simp only [ByteArray.size_append] <;> (have : (⟨#[119]⟩ : ByteArray).size = 1 := rfl) <;> (have : (⟨#[114]⟩ : ByteArray).size = 1 := rfl) <;> (have : (⟨#[58]⟩ : ByteArray).size = 1 := rfl) <;> (have : (⟨#[61]⟩ : ByteArray).size = 1 := rfl) <;> omega
theorem lineTo_len (l : List S61) (h : ∀ x ∈ l, okOp x = true) : ∀ j, j ≤ l.length → (lineTo l j).length ≤ j * 1000025
  | 0, _ => by simp [lineTo]
  | j + 1, hj => by
    unfold lineTo
    have h1 := lineTo_len l h j (by omega)
    have h2 := opBytes_len (h _ (by rw [rd_T61n l (by omega)]; exact List.getElem_mem _) : okOp (rd_T61 l (j : Int)) = true)
    rw [List.length_append, List.length_append]
    have h3 : (if j = 0 then ([] : List UInt8) else [32]).length ≤ 1 := by split <;> simp
    omega
theorem rd_mem (h : List (List S61)) {k : Nat} (hk : k < h.length) {x : S61} (hx : x ∈ rd_L4 h (k : Int)) : x ∈ h.flatten := by
  have : rd_L4 h (k : Int) = h[k] := by
    unfold rd_L4
    rw [Int.toNat_natCast, List.getD_eq_getElem?_getD, List.getElem?_eq_getElem hk]
    rfl
  rw [this] at hx
  exact List.mem_flatten.2 ⟨_, List.getElem_mem hk, hx⟩
theorem textTo_len (h : List (List S61)) (ho : ∀ x ∈ h.flatten, okOp x = true) : ∀ k, k ≤ h.length → (textTo h k).length ≤ k + sumTo h k * 1000025
  | 0, _ => by simp [textTo]
  | k + 1, hk => by
    unfold textTo
    have h1 := textTo_len h ho k (by omega)
    have h2 := lineTo_len (rd_L4 h (k : Int)) (fun x hx => ho x (rd_mem h (by omega) hx)) _ (Nat.le_refl _)
    rw [List.length_append, List.length_append, List.length_singleton, sumTo_succ h (by omega)]
    omega

theorem builder_lt {T : TypeId} {B b : Nat} {bs : List Value} {w : World} (h : Lib.IsBuilder T 5 B b bs w) : b < w.heap.size := by
  rcases h with h | h
  · exact h.lt
  · exact h.lt
theorem tabs_below {w w' : World} (h : Tabs w) (hB : Below w.heap.size w w') : Tabs w' := h.below hB
theorem below_wide {w a b : World} {B : Nat} (h : Below w.heap.size w a) (hb : Below B a b) (hle : w.heap.size ≤ B) : Below w.heap.size w b := h.trans (hb.mono hle)
theorem byteCells_append (l r : List UInt8) : Lib.byteCells (l ++ r) = Lib.byteCells l ++ Lib.byteCells r := by simp [Lib.byteCells]
theorem strCells_op (x : S61) : Lib.strCells (opText x.f0 x.f1 x.f2) = Lib.byteCells (opBytes x) := rfl
def TextPost2 (s : ByteArray) (e0 : Int) (w : World) (e : Ending) (w' : World) : Prop := e = .returned (.tuple #[.string s, .int .i64 e0]) ∧ Below w.heap.size w w'
set_option maxHeartbeats 1000000 in
set_option maxRecDepth 100000 in
theorem text_no (A : Option Addr) (c0 : Nat) (h : List (List S61)) (hb : h.flatten.length ≤ 4398046511104) (hr : rightV h = false) (w : World) (hC : (Kd.slice 61 k61).C w A h.length h) : Calls Tryd.prog 53 #[.slice A h.length c0] w (TextPost2 ⟨#[]⟩ 1 w) := by
  have CR := right_any A c0 h hb w hC
  rw [hr] at CR
  have HR := Lib.hid CR
  clear CR hr hC
  go_enter Tryd.func53, Tryd.ntmps53
  go_wp2_with (go_at_call 35; refine HR.out.mono ?_; rintro e w2 ⟨rfl, hB⟩; have HB := Lib.hid hB; clear hB)
  go_ret2
  exact ⟨rfl, HB.out⟩
set_option maxHeartbeats 4000000 in
set_option maxRecDepth 100000 in
theorem text_yes (A : Option Addr) (c0 : Nat) (h : List (List S61)) (hb : h.flatten.length ≤ 1000000) (hl : h.length ≤ 1000000) (ho : ∀ x ∈ h.flatten, okOp x = true) (hr : rightV h = true) (w : World) (hT : Tabs w) (hC : (Kd.slice 61 k61).C w A h.length h) :
    Calls Tryd.prog 53 #[.slice A h.length c0] w (TextPost2 ⟨(textTo h h.length).toArray⟩ 0 w) := by
  have CR := right_any A c0 h (by omega) w hC
  rw [hr] at CR
  have HR := Lib.hid CR
  have HC := Lib.hid hC
  have HT := Lib.hid hT
  have HO := Lib.hid ho
  clear CR hr hC hT ho
  go_enter Tryd.func53, Tryd.ntmps53
  go_wp2_with (go_at_call 35; refine HR.out.mono ?_; rintro e w2 ⟨rfl, hB⟩; have HB := Lib.hid hB; clear hB HR)
  obtain ⟨W2, hW2⟩ : ∃ W2, w2.alloc (.cells #[.pointer none, .slice none 0 0] 90) = W2 := ⟨_, rfl⟩
  have hI : Lib.IsBuilder 90 5 w2.heap.size w2.heap.size [] W2 := by rw [← hW2]; exact Lib.fresh_isBuilder 90 5 w2
  have hnil : W2.heap[w2.heap.size]? = some (.cells #[.pointer none, .slice none 0 0] 90 (0, 0)) := by rw [← hW2]; exact heap_alloc_new w2 _
  have hB2 : Below w.heap.size w W2 := by rw [← hW2]; exact below_alloc HB.out _
  have hBB : Below w2.heap.size w2 W2 := by rw [← hW2]; exact below_alloc (Below.refl _ _) _
  rw [hW2]
  clear hW2
  have hle := HB.out.size
  have HI := Aside0.mk hI
  have HN := Aside0.mk hnil
  have HB2 := Aside0.mk hB2
  have HBB := Aside0.mk hBB
  clear HB hI hnil hB2 hBB
  have hBs := HBB.out.size
  clear HBB
  generalize w2.heap.size = B at hle HI HN hBs ⊢
  go_loopw [14] (fun i wr => ∃ k : Nat, k ≤ h.length ∧ i = .int .i64 k ∧ Aside0 (Lib.IsBuilder 90 5 B B (Lib.byteCells (textTo h k)) wr) ∧ Aside0 (k = 0 → wr.heap[B]? = some (.cells #[.pointer none, .slice none 0 0] 90 (0, 0))) ∧ Aside0 (Below w.heap.size w wr) ∧ B ≤ wr.heap.size) (fun i _ => h.length - (intOf i).toNat)
  case atStart => exact ⟨0, Nat.zero_le _, rfl, HI, ⟨fun _ => HN.out⟩, HB2, hBs⟩
  case round =>
    clear HI HN HB2
    obtain ⟨k, hk, rfl, HI, HN, HB, hBs2⟩ := hrel
    by_cases hlt : k < h.length
    · obtain ⟨ad, A1, c1, rfl, hcell0, hlen, hrow⟩ := at_L4n _ A h.length h HC.out k hlt
      have hcell := pw_cell_below HB.out hcell0
      clear hcell0
      have HROW := Lib.hid hrow
      have HT1 := Lib.hid (textTo_len h HO.out k hk)
      have hs1 := sumTo_le h k
      have hs2 := sumTo_le h (k + 1)
      rw [sumTo_succ h hlt] at hs2
      have HOK := Lib.hid (fun x hx => HO.out x (rd_mem h hlt hx) : ∀ x ∈ rd_L4 h (k : Int), okOp x = true)
      have HTX := Lib.hid (show textTo h (k + 1) = textTo h k ++ (lineTo (rd_L4 h (k : Int)) (rd_L4 h (k : Int)).length ++ [10]) from rfl)
      have hlb : (textTo h k).length ≤ 1000000 + sumTo h k * 1000025 := by have := HT1.out; omega
      clear hrow HT1
      generalize rd_L4 h (k : Int) = l at hcell hlen HROW HOK HTX hs2 ⊢
      generalize textTo h k = tx at HI HTX hlb
      go_wp2
      go_loopw [20] (fun i wr2 => ∃ j : Nat, j ≤ l.length ∧ i = .int .i64 j ∧ Aside0 (Lib.IsBuilder 90 5 B B (Lib.byteCells (tx ++ lineTo l j)) wr2) ∧ Aside0 (Below w.heap.size w wr2) ∧ B ≤ wr2.heap.size) (fun i _ => l.length - (intOf i).toNat)
      case atStart => exact ⟨0, Nat.zero_le _, rfl, ⟨by simpa [lineTo] using HI.out⟩, HB, hBs2⟩
      case round =>
        clear HI HB HN hcell
        obtain ⟨j, hj, rfl, HI, HB, hBs3⟩ := hrel
        by_cases hlt2 : j < l.length
        · obtain ⟨ad2, rfl, hc0, hc1, hc2⟩ := at_T61n _ A1 l.length l (Kd.C_below HROW.out HB.out) j hlt2
          have HL := Lib.hid (lineTo_len l HOK.out j hj)
          have hok := HOK.out (rd_T61 l (j : Int)) (by rw [rd_T61n l hlt2]; exact List.getElem_mem _)
          obtain ⟨hk1, hk2, hk3⟩ := (okOp_iff _).1 hok
          have HOL := Lib.hid (opBytes_len hok)
          have HLL := Lib.hid (show lineTo l (j + 1) = lineTo l j ++ ((if j = 0 then [] else [32]) ++ opBytes (rd_T61 l (j : Int))) from rfl)
          clear hok
          generalize rd_T61 l (j : Int) = x at hc0 hc1 hc2 hk1 hk2 hk3 HOL HLL
          have hBlt : B < wr.heap.size := builder_lt HI.out
          have hlt3 : (lineTo l j).length ≤ j * 1000025 := HL.out
          have hol : (opBytes x).length ≤ 1000024 := HOL.out
          rcases Nat.eq_zero_or_pos j with h0 | h0
          · have hz : decide (0 < j) = false := decide_eq_false (by omega)
            have H0 := Lib.hid h0
            clear h0 hlt3 hol
            go_wp2_with fail
            have hTW := tabs_below HT.out HB.out
            refine (op_any x.f0 x.f1 x.f2 _ (hTW.alloc _) hk1 hk2 hk3).mono ?_
            rintro e w4 ⟨rfl, hb4⟩
            have HB4 := Lib.hid (below_step (below_alloc HB.out _) hb4)
            have HI4 := Lib.hid (isBuilder_below HI.out (below_step (below_alloc (Below.refl _ _) _) hb4))
            have hBs4 : B < w4.heap.size := builder_lt HI4.out
            clear hTW hb4
            go_wp2_with fail
            have hlen : (Lib.byteCells (tx ++ lineTo l j)).length + (opText x.f0 x.f1 x.f2).size ≤ 140737488355328 := by
              rw [Lib.byteCells_length, List.length_append]
              have h1 : (opBytes x).length = (opText x.f0 x.f1 x.f2).size := Array.length_toList
              have h2 := HL.out
              have h3 := HOL.out
              omega
            refine (writeString_any 90 tok90 B B _ _ _ HI4.out hlen (by omega)).mono ?_
            rintro e w5 ⟨rfl, hA5, hb5, _⟩
            have HI5 := Lib.hid hA5
            have HB5 := Lib.hid (below_wide HB4.out hb5 hle)
            have hBs5 : B < w5.heap.size := hA5.lt
            clear hlen hA5 hb5
            go_wp2_with fail
            go_roundw
            case rel =>
              refine ⟨j + 1, by omega, by go_num, ⟨.inr ?_⟩, ⟨HB5.out⟩, by omega⟩
              have h1 := HI5.out
              rw [strCells_op, ← byteCells_append] at h1
              rw [HLL.out, if_pos H0.out, List.nil_append, ← List.append_assoc]
              exact h1
            case measure => simp [intOf]; omega
          · have hz : decide (0 < j) = true := decide_eq_true h0
            have H0 := Lib.hid (Nat.ne_of_gt h0)
            clear hlt3 hol
            go_wp2_with fail
            have hlen : (Lib.byteCells (tx ++ lineTo l j)).length + 1 ≤ 140737488355328 := by
              rw [Lib.byteCells_length, List.length_append]
              have h2 := HL.out
              omega
            refine (writeByte_any 90 tok90 B B _ 32 _ (isBuilder_below HI.out (below_alloc (Below.refl _ _) _)) hlen (by simp; omega)).mono ?_
            rintro e w3 ⟨rfl, hA3, hb3, hkk3⟩
            have hbox : w3.heap[wr.heap.size]? = some (.cells #[.bool x.f0, .string x.f1, .int .i64 x.f2] 61 (0, 0)) := hkk3 _ _ (heap_alloc_new wr _) (by simp; omega) (by intro c fz e; injection e with _ e _; cases e)
            have d0 : w3.cell? ⟨wr.heap.size, 0, none⟩ = some (.bool x.f0) := by rw [Lib.cell_of_heap hbox]; rfl
            have d1 : w3.cell? ⟨wr.heap.size, 1, none⟩ = some (.string x.f1) := by rw [Lib.cell_of_heap hbox]; rfl
            have d2 : w3.cell? ⟨wr.heap.size, 2, none⟩ = some (.int .i64 x.f2) := by rw [Lib.cell_of_heap hbox]; rfl
            have HI3 := Lib.hid hA3
            have HB3 := Lib.hid (below_wide (below_alloc HB.out _) hb3 hle)
            clear hlen hA3 hb3 hkk3 hbox
            go_wp2_with fail
            have hTW := tabs_below HT.out HB3.out
            refine (op_any x.f0 x.f1 x.f2 _ hTW hk1 hk2 hk3).mono ?_
            rintro e w4 ⟨rfl, hb4⟩
            have HB4 := Lib.hid (below_step HB3.out hb4)
            have HI4 := Lib.hid (isBuilder_below (.inr HI3.out) hb4)
            have hBs4 : B < w4.heap.size := builder_lt HI4.out
            clear hTW hb4 d0 d1 d2
            go_wp2_with fail
            have hlen : (Lib.byteCells (tx ++ lineTo l j) ++ [Value.int .u8 32]).length + (opText x.f0 x.f1 x.f2).size ≤ 140737488355328 := by
              rw [List.length_append, Lib.byteCells_length, List.length_append, List.length_singleton]
              have h1 : (opBytes x).length = (opText x.f0 x.f1 x.f2).size := Array.length_toList
              have h2 := HL.out
              have h3 := HOL.out
              omega
            refine (writeString_any 90 tok90 B B _ _ _ HI4.out hlen (by omega)).mono ?_
            rintro e w5 ⟨rfl, hA5, hb5, _⟩
            have HI5 := Lib.hid hA5
            have HB5 := Lib.hid (below_wide HB4.out hb5 hle)
            have hBs5 : B < w5.heap.size := hA5.lt
            clear hlen hA5 hb5
            go_wp2_with fail
            go_roundw
            case rel =>
              refine ⟨j + 1, by omega, by go_num, ⟨.inr ?_⟩, ⟨HB5.out⟩, by omega⟩
              have h1 := HI5.out
              rw [strCells_op, show ([.int .u8 32] : List Value) = Lib.byteCells [32] from rfl, ← byteCells_append, ← byteCells_append] at h1
              rw [HLL.out, if_neg H0.out, ← List.append_assoc, ← List.append_assoc]
              exact h1
            case measure => simp [intOf]; omega
        · obtain rfl : j = l.length := by omega
          have HL := Lib.hid (lineTo_len l HOK.out l.length (Nat.le_refl _))
          have hBlt : B < wr.heap.size := builder_lt HI.out
          go_wp2_with fail
          have hlen : (Lib.byteCells (tx ++ lineTo l l.length)).length + 1 ≤ 140737488355328 := by
            rw [Lib.byteCells_length, List.length_append]
            have h2 := HL.out
            omega
          refine (writeByte_any 90 tok90 B B _ 10 _ HI.out hlen (by omega)).mono ?_
          rintro e w3 ⟨rfl, hA3, hb3, _⟩
          have HI3 := Lib.hid hA3
          have HB3 := Lib.hid (below_wide HB.out hb3 hle)
          have hBs4 : B < w3.heap.size := hA3.lt
          clear hlen hA3 hb3
          go_wp2_with fail
          go_roundw
          case rel =>
            refine ⟨k + 1, by omega, by go_num, ⟨.inr ?_⟩, ⟨fun h => absurd h (Nat.succ_ne_zero k)⟩, ⟨HB3.out⟩, by omega⟩
            have h1 := HI3.out
            rw [show ([.int .u8 10] : List Value) = Lib.byteCells [10] from rfl, ← byteCells_append] at h1
            rw [HTX.out, ← List.append_assoc]
            exact h1
          case measure => simp [intOf]; omega
    · obtain rfl : k = h.length := by omega
      have hBlt : B < wr.heap.size := builder_lt HI.out
      rcases Nat.eq_zero_or_pos h.length with h0 | h0
      · have HX := Lib.hid (show textTo h h.length = [] by rw [h0]; rfl)
        have HN2 := Lib.hid (HN.out h0)
        clear h0 HN
        go_wp2_with fail
        refine (string_nil 90 B B _ wr HN2.out).mono ?_
        rintro e w3 ⟨rfl, hb3⟩
        have HB3 := Lib.hid (below_wide HB.out hb3 hle)
        clear hb3
        go_wp2_with fail
        go_ret2
        exact ⟨congrArg (fun l : List UInt8 => Ending.returned (.tuple #[.string ⟨l.toArray⟩, .int .i64 0])) HX.out.symm, HB3.out⟩
      · have HX := Lib.hid (show textTo h h.length ≠ [] by
          obtain ⟨m, hm⟩ : ∃ m, h.length = m + 1 := ⟨h.length - 1, by omega⟩
          rw [hm]; unfold textTo; simp)
        clear HN
        go_wp2_with fail
        refine (string_some 90 B B _ wr HI.out HX.out).mono ?_
        rintro e w3 ⟨rfl, hb3⟩
        have HB3 := Lib.hid (below_wide HB.out hb3 hle)
        clear hb3
        go_wp2_with fail
        go_ret2
        exact ⟨rfl, HB3.out⟩

def textV (h : List (List S61)) : ByteArray × Int := if rightV h = true then (⟨(textTo h h.length).toArray⟩, 0) else (⟨#[]⟩, 1)
def textOk (h : List (List S61)) : Bool := decide (h.length ≤ 1000000) && (decide (h.flatten.length ≤ 1000000) && h.flatten.all okOp)
def show_Text.f (h : List (List S61)) : Option (ByteArray × Int) := if textOk h = true then some (textV h) else none
theorem show_Text.calls (A0 : Option Addr) (c0 : Nat) (l0 : List (List S61)) (r1 : ByteArray) (r2 : Int) (w : World) (hr0 : Kd.C (Kd.slice 61 k61) w A0 l0.length l0) (hc0 : l0.length ≤ c0) (hT : Tabs w) (h : show_Text.f l0 = some (r1, r2)) :
    Calls Tryd.prog 53 #[.slice A0 l0.length c0] w fun e w' => e = .returned (.tuple #[.string r1, .int .i64 r2]) ∧ Below w.heap.size w w' := by
  unfold show_Text.f at h
  split at h
  · rename_i hc
    unfold textOk at hc
    rw [Bool.and_eq_true, Bool.and_eq_true, decide_eq_true_eq, decide_eq_true_eq, List.all_eq_true] at hc
    obtain ⟨h1, h2, h3⟩ := hc
    have hv := Option.some.inj h
    unfold textV at hv
    split at hv
    · rename_i hr
      injection hv with e1 e2
      rw [← e1, ← e2]
      exact text_yes A0 c0 l0 h2 h1 h3 hr w hT hr0
    · rename_i hr
      injection hv with e1 e2
      rw [← e1, ← e2]
      exact text_no A0 c0 l0 (by omega) (by simpa using hr) w hr0
  · cases h
end Go.Proofs.YtcabnjinfkjnjaaDoor.XH
