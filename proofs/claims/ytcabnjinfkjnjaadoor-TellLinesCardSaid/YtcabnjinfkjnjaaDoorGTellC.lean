/- TELL, by hand, third part: a witness's lines; a verdict's text where it is an error's or a witness's. -/
import Derived.Test.YtcabnjinfkjnjaaDoorGTellB
namespace Go.Proofs.YtcabnjinfkjnjaaDoor.XH
open Go.RowKit Go.Proofs.YtcabnjinfkjnjaaDoorW.PrintWords Go.Proofs.YtcabnjinfkjnjaaDoorW.PrintLast Go.Proofs.YtcabnjinfkjnjaaDoorW.PrintMore Go.Proofs.YtcabnjinfkjnjaaDoor.X
set_option linter.unusedVariables false
structure S46 where
  f0 : Int
  f1 : Int
  f2 : Int
  f3 : Int
  f4 : Int
def z46 : S46 := ⟨0, 0, 0, 0, 0⟩
def k46 : Kd S46 := Kd.iso (Kd.pair (Kd.int .i64) (Kd.pair (Kd.int .i64) (Kd.pair (Kd.int .i64) (Kd.pair (Kd.int .i64) (Kd.int .i64))))) (fun x : S46 => (x.f0, x.f1, x.f2, x.f3, x.f4))
theorem k46_open {w : World} {x : S46} {cs : List Value} (h : k46.K w x cs) : cs = [.int .i64 x.f0, .int .i64 x.f1, .int .i64 x.f2, .int .i64 x.f3, .int .i64 x.f4] := by
  obtain ⟨_, _, rfl, rfl, ⟨_, _, rfl, rfl, ⟨_, _, rfl, rfl, ⟨_, _, rfl, rfl, rfl⟩⟩⟩⟩ := h
  exact rfl
theorem at_46 {w : World} {A : Option Addr} {n : Nat} {xs : List S46} (h : Kd.C k46 w A n xs) (k : Nat) (h1 : k < n) : ∃ ad, A = some ad ∧ w.cell? (ad.add (k * 5)) = some (.int .i64 (xs.getD k z46).f0) ∧ w.cell? ⟨(ad.add (k * 5)).block, (ad.add (k * 5)).off + 1, none⟩ = some (.int .i64 (xs.getD k z46).f1) ∧ w.cell? ⟨(ad.add (k * 5)).block, (ad.add (k * 5)).off + 2, none⟩ = some (.int .i64 (xs.getD k z46).f2) ∧ w.cell? ⟨(ad.add (k * 5)).block, (ad.add (k * 5)).off + 3, none⟩ = some (.int .i64 (xs.getD k z46).f3) ∧ w.cell? ⟨(ad.add (k * 5)).block, (ad.add (k * 5)).off + 4, none⟩ = some (.int .i64 (xs.getD k z46).f4) := by
  obtain ⟨ad, c, e, _, hK, hc0⟩ := Kd.C_get h z46 (k : Int) (by omega) (by omega)
  rw [Int.toNat_natCast] at hK hc0
  have hc : ∀ j u, c[j]? = some u → w.cell? (ad.add (k * 5 + j)) = some u := hc0
  obtain rfl := k46_open hK
  exact ⟨ad, e, hc 0 _ rfl, by rw [← add_field _ _ 1 (by omega)]; exact hc 1 _ rfl, by rw [← add_field _ _ 2 (by omega)]; exact hc 2 _ rfl, by rw [← add_field _ _ 3 (by omega)]; exact hc 3 _ rfl, by rw [← add_field _ _ 4 (by omega)]; exact hc 4 _ rfl⟩
theorem builder_lt' {T : TypeId} {B b : Nat} {bs : List Value} {w : World} (h : Lib.IsBuilder T 5 B b bs w) : b < w.heap.size := by
  rcases h with h | h
  · exact h.lt
  · exact h.lt
def in64 (n : Int) : Prop := -9223372036854775808 ≤ n ∧ n ≤ 9223372036854775807
/-- A new row of whole numbers reads as they are. -/
theorem ints_new (w : World) (l : List Int) (hl : l.length ≤ 1000) : (Kd.int .i64).C (w.alloc (.cells (l.map (Value.int .i64)).toArray 3)) (some ⟨w.heap.size, 0, none⟩) l.length l := by
  refine ⟨rfl, by omega, fun _ => ⟨_, rfl, fun j p hj => ⟨[.int .i64 p], rfl, rfl, fun i u hu => ?_⟩⟩⟩
  have hi : i = 0 := by
    cases i with
    | zero => rfl
    | succ i => simp at hu
  subst hi
  have hu' : u = .int .i64 p := by simpa using hu.symm
  subst hu'
  have e : (Addr.mk w.heap.size 0 none).add (j * (Kd.int .i64).sz + 0) = ⟨w.heap.size, j, none⟩ := by
    show (Addr.mk w.heap.size 0 none).add (j * 1 + 0) = _
    unfold Addr.add
    split
    · have : j = 0 := by omega
      subst this
      rfl
    · simp
  rw [e, Lib.cell_of_heap (heap_alloc_new w _)]
  simp [hj]
def sayStep (x : S46) : List UInt8 := numB [115, 116, 101, 112] [x.f0, x.f1, x.f2, x.f3, x.f4]
def stepsT (l : List S46) : List UInt8 := l.flatMap sayStep
structure WitHead where
  k : Int
  r : Int
  w1 : Int
  w2 : Int
  o : Int
  f : Int
  s : Int
def headT (x : WitHead) : List UInt8 := numB [112, 97, 116, 116, 101, 114, 110] [x.k, x.r, x.w1, x.w2, x.o, x.f, x.s]
def WitIn (x : WitHead) : Prop := in64 x.k ∧ in64 x.r ∧ in64 x.w1 ∧ in64 x.w2 ∧ in64 x.o ∧ in64 x.f ∧ in64 x.s
def StepIn (x : S46) : Prop := in64 x.f0 ∧ in64 x.f1 ∧ in64 x.f2 ∧ in64 x.f3 ∧ in64 x.f4
theorem numB_len (name : List UInt8) (l : List Int) (hi : ∀ n ∈ l, -9223372036854775808 ≤ n ∧ n ≤ 9223372036854775807) : (numB name l).length ≤ name.length + 22 * l.length + 1 := by
  have := nums_len l hi
  unfold numB
  rw [List.length_append, List.length_append, List.length_singleton]
  omega
theorem sayStep_len (x : S46) (h : StepIn x) : (sayStep x).length ≤ 115 := by
  have := numB_len [115, 116, 101, 112] [x.f0, x.f1, x.f2, x.f3, x.f4] (by
    intro n hn
    simp only [List.mem_cons, List.not_mem_nil, or_false] at hn
    obtain ⟨h1, h2, h3, h4, h5⟩ := h
    rcases hn with rfl | rfl | rfl | rfl | rfl <;> assumption)
  exact this
theorem stepsT_len : ∀ (l : List S46), (∀ x ∈ l, StepIn x) → (stepsT l).length ≤ 115 * l.length
  | [], _ => Nat.le_refl _
  | x :: l, h => by
    have h1 := sayStep_len x (h x (.head _))
    have h2 := stepsT_len l (fun y hy => h y (.tail _ hy))
    unfold stepsT at h2 ⊢
    rw [List.flatMap_cons, List.length_append, List.length_cons]
    omega
set_option maxHeartbeats 2000000 in
set_option maxRecDepth 100000 in
theorem witness_any (w0 : World) (B b : Nat) (bs : List UInt8) (x : WitHead) (A : Option Addr) (c : Nat) (l : List S46) (w : World) (hI : Lib.IsBuilder 92 5 B b (Lib.byteCells bs) w) (h0 : w0.heap.size ≤ B) (hB : B ≤ w.heap.size) (hB0 : Below w0.heap.size w0 w) (hT : Tabs w0) (hC : k46.C w0 A l.length l) (hl : l.length ≤ 1000) (hx : WitIn x) (hi : ∀ y ∈ l, StepIn y) (hlen : bs.length ≤ 1000000) :
    Calls Tryd.prog 61 #[.pointer (some ⟨b, 0, none⟩), .agg #[.int .i64 x.k, .int .i64 x.r, .int .i64 x.w1, .int .i64 x.w2, .int .i64 x.o, .slice A l.length c, .int .i64 x.f, .int .i64 x.s]] w (SayPost B b (bs ++ (headT x ++ stepsT l)) w) := by
  have HI := Lib.hid hI
  have HT := Lib.hid hT
  have HC := Lib.hid hC
  have HX := Lib.hid hx
  have HS := Lib.hid hi
  have HB0 := Lib.hid hB0
  clear hI hT hC hx hi hB0
  go_enter Tryd.func61, Tryd.ntmps61
  go_wp2_with fail
  obtain ⟨W1, hW1⟩ : ∃ W1, w.alloc (.cells #[.int .i64 x.k, .int .i64 x.r, .int .i64 x.w1, .int .i64 x.w2, .int .i64 x.o, .slice A l.length c, .int .i64 x.f, .int .i64 x.s] 32) = W1 := ⟨_, rfl⟩
  have hs1 : W1.heap.size = w.heap.size + 1 := by rw [← hW1, World.size_alloc]
  have hbox : W1.heap[w.heap.size]? = some (.cells #[.int .i64 x.k, .int .i64 x.r, .int .i64 x.w1, .int .i64 x.w2, .int .i64 x.o, .slice A l.length c, .int .i64 x.f, .int .i64 x.s] 32 (0, 0)) := by rw [← hW1]; exact heap_alloc_new w _
  have hB1 : Below w.heap.size w W1 := by rw [← hW1]; exact below_alloc (Below.refl _ _) _
  rw [hW1]
  clear hW1
  obtain ⟨W2, hW2⟩ : ∃ W2, W1.alloc (.cells #[.int .i64 x.k, .int .i64 x.r, .int .i64 x.w1, .int .i64 x.w2, .int .i64 x.o, .int .i64 x.f, .int .i64 x.s] 3) = W2 := ⟨_, rfl⟩
  have hC2 : (Kd.int .i64).C W2 (some ⟨W1.heap.size, 0, none⟩) 7 [x.k, x.r, x.w1, x.w2, x.o, x.f, x.s] := by rw [← hW2]; exact ints_new W1 [x.k, x.r, x.w1, x.w2, x.o, x.f, x.s] (by simp)
  have hB2 : Below W1.heap.size W1 W2 := by rw [← hW2]; exact below_alloc (Below.refl _ _) _
  rw [hW2]
  clear hW2
  rw [hs1] at hC2
  have hB12 : Below w.heap.size w W2 := hB1.trans (hB2.mono (by omega))
  have hbox2 : W2.heap[w.heap.size]? = some (.cells #[.int .i64 x.k, .int .i64 x.r, .int .i64 x.w1, .int .i64 x.w2, .int .i64 x.o, .slice A l.length c, .int .i64 x.f, .int .i64 x.s] 32 (0, 0)) := (hB2.block _ (by omega)).trans hbox
  have hin : ∀ n ∈ [x.k, x.r, x.w1, x.w2, x.o, x.f, x.s], -9223372036854775808 ≤ n ∧ n ≤ 9223372036854775807 := by
    intro n hn
    simp only [List.mem_cons, List.not_mem_nil, or_false] at hn
    obtain ⟨q1, q2, q3, q4, q5, q6, q7⟩ := HX.out
    rcases hn with rfl | rfl | rfl | rfl | rfl | rfl | rfl <;> assumption
  refine (say_any B b bs _ 7 ⟨#[112, 97, 116, 116, 101, 114, 110]⟩ [x.k, x.r, x.w1, x.w2, x.o, x.f, x.s] W2 (isBuilder_below' HI.out hB12) (Nat.le_trans hB hB12.size) (HT.out.below (below_step HB0.out hB12)) hC2 (by simp) (by decide) hin (by omega)).mono ?_
  rintro e1 W3 ⟨rfl, hI3, hb3, hk3⟩
  have hblt : b < w.heap.size := builder_lt' HI.out
  have hbox3 := hk3 _ _ hbox2 (by intro h; have := Option.some.inj h; omega) (by intro cc fz e; injection e with _ e _; cases e)
  have hcell : W3.cell? ⟨w.heap.size, 5, none⟩ = some (.slice A l.length c) := by rw [Lib.cell_of_heap hbox3]; rfl
  have hI3' : Lib.IsBuilder 92 5 B b (Lib.byteCells (bs ++ headT x)) W3 := hI3
  have HI3 := Aside0.mk hI3'
  have HB3 := Aside0.mk (below_wide' hB12 hb3 hB)
  have HK3 := Aside0.mk ((kept_of hB12).trans hk3 : Lib.OthersKept 5 (some b) w W3)
  have hhl : (headT x).length ≤ 162 := numB_len _ _ hin
  clear hbox hB1 hC2 hB2 hbox2 hin hI3 hI3' hb3 hk3 hbox3 hs1 hB12
  go_wp2
  go_loopw [26] (fun i wr => ∃ k : Nat, k ≤ l.length ∧ i = .int .i64 k ∧ Aside0 (Lib.IsBuilder 92 5 B b (Lib.byteCells (bs ++ (headT x ++ stepsT (l.take k)))) wr) ∧ Aside0 (Below B w wr) ∧ Aside0 (Lib.OthersKept 5 (some b) w wr)) (fun i _ => l.length - (intOf i).toNat)
  case atStart => exact ⟨0, Nat.zero_le _, rfl, ⟨by simpa [stepsT] using HI3.out⟩, HB3, HK3⟩
  case round =>
    clear HI3 HB3 HK3 hcell
    obtain ⟨k, hk, rfl, HI3, HB3, HK3⟩ := hrel
    by_cases hlt : k < l.length
    · have hBw := HB0.out.trans (HB3.out.mono h0)
      obtain ⟨ad, rfl, hc0, hc1, hc2, hc3, hc4⟩ := at_46 (Kd.C_below HC.out hBw) k hlt
      have hstep := HS.out (l.getD k z46) (by rw [List.getD_eq_getElem?_getD, List.getElem?_eq_getElem hlt]; exact List.getElem_mem hlt)
      have HTK := Lib.hid (show stepsT (l.take (k + 1)) = stepsT (l.take k) ++ sayStep (l.getD k z46) by
        unfold stepsT
        rw [List.take_add_one, List.getElem?_eq_getElem hlt, List.getD_eq_getElem?_getD, List.getElem?_eq_getElem hlt, List.flatMap_append]
        simp)
      have htl := stepsT_len (l.take k) (fun y hy => HS.out y (List.mem_of_mem_take hy))
      rw [List.length_take] at htl
      generalize l.getD k z46 = y at hc0 hc1 hc2 hc3 hc4 hstep HTK
      have HY := Lib.hid hstep
      have HBW := Lib.hid hBw
      have hBs := HB3.out.size
      clear hstep hBw
      go_wp2_with fail
      obtain ⟨V1, hV1⟩ : ∃ V1, wr.alloc (.cells #[.int .i64 y.f0, .int .i64 y.f1, .int .i64 y.f2, .int .i64 y.f3, .int .i64 y.f4] 46) = V1 := ⟨_, rfl⟩
      have hs1 : V1.heap.size = wr.heap.size + 1 := by rw [← hV1, World.size_alloc]
      have hB1 : Below wr.heap.size wr V1 := by rw [← hV1]; exact below_alloc (Below.refl _ _) _
      rw [hV1]
      clear hV1
      obtain ⟨V2, hV2⟩ : ∃ V2, V1.alloc (.cells #[.int .i64 y.f0, .int .i64 y.f1, .int .i64 y.f2, .int .i64 y.f3, .int .i64 y.f4] 3) = V2 := ⟨_, rfl⟩
      have hC2 : (Kd.int .i64).C V2 (some ⟨V1.heap.size, 0, none⟩) 5 [y.f0, y.f1, y.f2, y.f3, y.f4] := by rw [← hV2]; exact ints_new V1 [y.f0, y.f1, y.f2, y.f3, y.f4] (by simp)
      have hB2 : Below V1.heap.size V1 V2 := by rw [← hV2]; exact below_alloc (Below.refl _ _) _
      rw [hV2]
      clear hV2
      rw [hs1] at hC2
      have hB12 : Below wr.heap.size wr V2 := hB1.trans (hB2.mono (by omega))
      have hin : ∀ n ∈ [y.f0, y.f1, y.f2, y.f3, y.f4], -9223372036854775808 ≤ n ∧ n ≤ 9223372036854775807 := by
        intro n hn
        simp only [List.mem_cons, List.not_mem_nil, or_false] at hn
        obtain ⟨q1, q2, q3, q4, q5⟩ := HY.out
        rcases hn with rfl | rfl | rfl | rfl | rfl <;> assumption
      refine (say_any B b _ _ 5 ⟨#[115, 116, 101, 112]⟩ [y.f0, y.f1, y.f2, y.f3, y.f4] V2 (isBuilder_below' HI3.out hB12) (by have := hB12.size; omega) (HT.out.below (below_step HBW.out hB12)) hC2 (by simp) (by decide) hin (by rw [List.length_append, List.length_append]; omega)).mono ?_
      rintro e1 W4 ⟨rfl, hI4, hb4, hk4⟩
      have HI4 := Lib.hid hI4
      have HB4 := Lib.hid (HB3.out.trans (below_wide' hB12 hb4 (by omega)))
      have HK4 := Lib.hid (HK3.out.trans ((kept_of hB12 : Lib.OthersKept 5 (some b) wr V2).trans hk4))
      clear hI4 hb4 hk4 hC2 hin hB12 hB1 hB2 hs1 hc0 hc1 hc2 hc3 hc4 htl
      go_wp2
      go_roundw
      case rel =>
        refine ⟨k + 1, by omega, by go_num, ⟨?_⟩, ⟨HB4.out⟩, ⟨HK4.out⟩⟩
        have h1 : Lib.IsBuilder 92 5 B b (Lib.byteCells (bs ++ (headT x ++ stepsT (l.take k)) ++ sayStep y)) W4 := HI4.out
        rw [HTK.out]
        rwa [List.append_assoc, List.append_assoc] at h1
      case measure => simp [intOf]; omega
    · obtain rfl : k = l.length := by omega
      have hI := HI3.out
      rw [List.take_length] at hI
      have HI9 := Lib.hid hI
      clear hI
      go_wp2
      go_end0
      exact ⟨rfl, HI9.out, HB3.out, HK3.out⟩

def levelT (n : Int) : List UInt8 := numB [105, 110, 99, 111, 110, 115, 105, 115, 116, 101, 110, 116] [n]
def errT (e a i j : Int) : List UInt8 := numB [101, 114, 114, 111, 114] [e, a, i, j]
set_option maxHeartbeats 2000000 in
set_option maxRecDepth 100000 in
theorem textErr_any (e a i j : Int) (he : e ≠ 0) (h1 : in64 e) (h2 : in64 a) (h3 : in64 i) (h4 : in64 j) (v4 v5 v6 v7 v8 v9 v10 v11 v12 v13 v14 v15 v16 v17 v18 : Value) (w : World) (hT : Tabs w) :
    Calls Tryd.prog 21 #[.agg #[.int .i64 e, .int .i64 a, .int .i64 i, .int .i64 j, v4, v5, v6, v7, v8, v9, v10, v11, v12, v13, v14, v15, v16, v17, v18]] w (StrIs ⟨(errT e a i j).toArray⟩ w) := by
  have HT := Lib.hid hT
  clear hT
  have hin : ∀ n ∈ [e, a, i, j], -9223372036854775808 ≤ n ∧ n ≤ 9223372036854775807 := by
    intro n hn
    simp only [List.mem_cons, List.not_mem_nil, or_false] at hn
    rcases hn with rfl | rfl | rfl | rfl <;> assumption
  have HIN := Lib.hid hin
  clear hin
  go_enter Tryd.func21, Tryd.ntmps21
  have hne : (e == 0) = false := by simpa using he
  go_wp2_with fail
  obtain ⟨W1, hW1⟩ : ∃ W1, w.alloc (.cells #[.int .i64 e, .int .i64 a, .int .i64 i, .int .i64 j, v4, v5, v6, v7, v8, v9, v10, v11, v12, v13, v14, v15, v16, v17, v18] 34) = W1 := ⟨_, rfl⟩
  have hs1 : W1.heap.size = w.heap.size + 1 := by rw [← hW1, World.size_alloc]
  have hbox : W1.heap[w.heap.size]? = some (.cells #[.int .i64 e, .int .i64 a, .int .i64 i, .int .i64 j, v4, v5, v6, v7, v8, v9, v10, v11, v12, v13, v14, v15, v16, v17, v18] 34 (0, 0)) := by rw [← hW1]; exact heap_alloc_new w _
  have hB1 : Below w.heap.size w W1 := by rw [← hW1]; exact below_alloc (Below.refl _ _) _
  rw [hW1]
  clear hW1
  obtain ⟨W2, hW2⟩ : ∃ W2, W1.alloc (.cells #[.pointer none, .slice none 0 0] 92) = W2 := ⟨_, rfl⟩
  have hI2 : Lib.IsBuilder 92 5 W1.heap.size W1.heap.size [] W2 := by rw [← hW2]; exact Lib.fresh_isBuilder 92 5 W1
  have hs2 : W2.heap.size = W1.heap.size + 1 := by rw [← hW2, World.size_alloc]
  have hB2 : Below W1.heap.size W1 W2 := by rw [← hW2]; exact below_alloc (Below.refl _ _) _
  rw [hW2]
  clear hW2
  obtain ⟨W3, hW3⟩ : ∃ W3, W2.alloc (.cells #[.int .i64 e, .int .i64 a, .int .i64 i, .int .i64 j] 3) = W3 := ⟨_, rfl⟩
  have hC3 : (Kd.int .i64).C W3 (some ⟨W2.heap.size, 0, none⟩) 4 [e, a, i, j] := by rw [← hW3]; exact ints_new W2 [e, a, i, j] (by simp)
  have hB3 : Below W2.heap.size W2 W3 := by rw [← hW3]; exact below_alloc (Below.refl _ _) _
  rw [hW3]
  clear hW3
  rw [hs2, hs1] at hC3
  have hI3 : Lib.IsBuilder 92 5 W1.heap.size W1.heap.size (Lib.byteCells []) W3 := isBuilder_below' hI2 hB3
  rw [hs1] at hI3 hB2
  have hB23 : Below (w.heap.size + 1) W1 W3 := hB2.trans (hB3.mono (by omega))
  have hB13 : Below w.heap.size w W3 := hB1.trans (hB23.mono (by omega))
  have hsz3 := hB3.size
  refine (say_any (w.heap.size + 1) (w.heap.size + 1) [] _ 4 ⟨#[101, 114, 114, 111, 114]⟩ [e, a, i, j] W3 hI3 (by omega) (HT.out.below hB13) hC3 (by simp) (by decide) HIN.out (by simp)).mono ?_
  rintro e1 W4 ⟨rfl, hI4, hb4, hk4⟩
  have HI4 := Lib.hid hI4
  have HB4 := Lib.hid (hB13.trans (hb4.mono (by omega)))
  clear hI4 hb4 hk4 hC3 hI3 hI2 hbox hB1 hB2 hB3 hB23 hB13
  go_wp2_with fail
  refine (string_some 92 (w.heap.size + 1) (w.heap.size + 1) (errT e a i j) W4 HI4.out (by simp [errT, numB])).mono ?_
  rintro e1 W5 ⟨rfl, hb5⟩
  have HB5 := Lib.hid (HB4.out.trans (hb5.mono (by omega)))
  clear hb5
  go_wp2_with fail
  go_ret
  exact ⟨rfl, HB5.out⟩
def witT (lv : Int) (x : WitHead) (l : List S46) : List UInt8 := levelT lv ++ (headT x ++ stepsT l)
set_option maxHeartbeats 2000000 in
set_option maxRecDepth 100000 in
theorem textWit_any (lv : Int) (hlv : in64 lv) (x : WitHead) (hx : WitIn x) (A : Option Addr) (c : Nat) (l : List S46) (hl : l.length ≤ 1000) (hi : ∀ y ∈ l, StepIn y) (v1 v2 v3 v6 v7 v8 v9 v10 : Value) (w : World) (hT : Tabs w) (hC : k46.C w A l.length l) :
    Calls Tryd.prog 21 #[.agg #[.int .i64 0, v1, v2, v3, .int .i64 lv, .bool false, v6, v7, v8, v9, v10, .int .i64 x.k, .int .i64 x.r, .int .i64 x.w1, .int .i64 x.w2, .int .i64 x.o, .slice A l.length c, .int .i64 x.f, .int .i64 x.s]] w (StrIs ⟨(witT lv x l).toArray⟩ w) := by
  have HT := Lib.hid hT
  have HC := Lib.hid hC
  have HX := Lib.hid hx
  have HS := Lib.hid hi
  clear hT hC hx hi
  have hin : ∀ n ∈ [lv], -9223372036854775808 ≤ n ∧ n ≤ 9223372036854775807 := by
    intro n hn
    simp only [List.mem_cons, List.not_mem_nil, or_false] at hn
    rcases hn with rfl
    assumption
  have HIN := Lib.hid hin
  clear hin
  go_enter Tryd.func21, Tryd.ntmps21
  go_wp2_with fail
  obtain ⟨W1, hW1⟩ : ∃ W1, w.alloc (.cells #[.int .i64 0, v1, v2, v3, .int .i64 lv, .bool false, v6, v7, v8, v9, v10, .int .i64 x.k, .int .i64 x.r, .int .i64 x.w1, .int .i64 x.w2, .int .i64 x.o, .slice A l.length c, .int .i64 x.f, .int .i64 x.s] 34) = W1 := ⟨_, rfl⟩
  have hs1 : W1.heap.size = w.heap.size + 1 := by rw [← hW1, World.size_alloc]
  have hbox : W1.heap[w.heap.size]? = some (.cells #[.int .i64 0, v1, v2, v3, .int .i64 lv, .bool false, v6, v7, v8, v9, v10, .int .i64 x.k, .int .i64 x.r, .int .i64 x.w1, .int .i64 x.w2, .int .i64 x.o, .slice A l.length c, .int .i64 x.f, .int .i64 x.s] 34 (0, 0)) := by rw [← hW1]; exact heap_alloc_new w _
  have hB1 : Below w.heap.size w W1 := by rw [← hW1]; exact below_alloc (Below.refl _ _) _
  rw [hW1]
  clear hW1
  obtain ⟨W2, hW2⟩ : ∃ W2, W1.alloc (.cells #[.pointer none, .slice none 0 0] 92) = W2 := ⟨_, rfl⟩
  have hI2 : Lib.IsBuilder 92 5 W1.heap.size W1.heap.size [] W2 := by rw [← hW2]; exact Lib.fresh_isBuilder 92 5 W1
  have hs2 : W2.heap.size = W1.heap.size + 1 := by rw [← hW2, World.size_alloc]
  have hB2 : Below W1.heap.size W1 W2 := by rw [← hW2]; exact below_alloc (Below.refl _ _) _
  rw [hW2]
  clear hW2
  obtain ⟨W3, hW3⟩ : ∃ W3, W2.alloc (.cells #[.int .i64 lv] 3) = W3 := ⟨_, rfl⟩
  have hC3 : (Kd.int .i64).C W3 (some ⟨W2.heap.size, 0, none⟩) 1 [lv] := by rw [← hW3]; exact ints_new W2 [lv] (by simp)
  have hB3 : Below W2.heap.size W2 W3 := by rw [← hW3]; exact below_alloc (Below.refl _ _) _
  rw [hW3]
  clear hW3
  rw [hs2, hs1] at hC3
  have hI3 : Lib.IsBuilder 92 5 W1.heap.size W1.heap.size (Lib.byteCells []) W3 := isBuilder_below' hI2 hB3
  rw [hs1] at hI3 hB2
  have hB23 : Below (w.heap.size + 1) W1 W3 := hB2.trans (hB3.mono (by omega))
  have hB13 : Below w.heap.size w W3 := hB1.trans (hB23.mono (by omega))
  have hsz3 := hB3.size
  refine (say_any (w.heap.size + 1) (w.heap.size + 1) [] _ 1 ⟨#[105, 110, 99, 111, 110, 115, 105, 115, 116, 101, 110, 116]⟩ [lv] W3 hI3 (by omega) (HT.out.below hB13) hC3 (by simp) (by decide) HIN.out (by simp)).mono ?_
  rintro e1 W4 ⟨rfl, hI4, hb4, hk4⟩
  have hbox4 : W4.heap[w.heap.size]? = some (.cells #[.int .i64 0, v1, v2, v3, .int .i64 lv, .bool false, v6, v7, v8, v9, v10, .int .i64 x.k, .int .i64 x.r, .int .i64 x.w1, .int .i64 x.w2, .int .i64 x.o, .slice A l.length c, .int .i64 x.f, .int .i64 x.s] 34 (0, 0)) := ((hB23.trans hb4).block _ (by omega)).trans hbox
  have HBX := Lib.hid hbox4
  have HI4 := Lib.hid hI4
  have HB4 := Lib.hid (hB13.trans (hb4.mono (by omega)))
  have hsz4 := (hB23.trans hb4).size
  have hll : (levelT lv).length ≤ 35 := numB_len _ _ HIN.out
  clear hI4 hb4 hk4 hC3 hI3 hI2 hbox hB1 hB2 hB3 hB23 hB13
  have hc11 : W4.cell? ⟨w.heap.size, 11, none⟩ = some (.int .i64 x.k) := by rw [Lib.cell_of_heap hbox4]; rfl
  have hc12 : W4.cell? ⟨w.heap.size, 12, none⟩ = some (.int .i64 x.r) := by rw [Lib.cell_of_heap hbox4]; rfl
  have hc13 : W4.cell? ⟨w.heap.size, 13, none⟩ = some (.int .i64 x.w1) := by rw [Lib.cell_of_heap hbox4]; rfl
  have hc14 : W4.cell? ⟨w.heap.size, 14, none⟩ = some (.int .i64 x.w2) := by rw [Lib.cell_of_heap hbox4]; rfl
  have hc15 : W4.cell? ⟨w.heap.size, 15, none⟩ = some (.int .i64 x.o) := by rw [Lib.cell_of_heap hbox4]; rfl
  have hc16 : W4.cell? ⟨w.heap.size, 16, none⟩ = some (.slice A l.length c) := by rw [Lib.cell_of_heap hbox4]; rfl
  have hc17 : W4.cell? ⟨w.heap.size, 17, none⟩ = some (.int .i64 x.f) := by rw [Lib.cell_of_heap hbox4]; rfl
  have hc18 : W4.cell? ⟨w.heap.size, 18, none⟩ = some (.int .i64 x.s) := by rw [Lib.cell_of_heap hbox4]; rfl
  clear hbox4
  go_wp2_with fail
  refine (witness_any w (w.heap.size + 1) (w.heap.size + 1) (levelT lv) x A c l W4 HI4.out (by omega) (by omega) HB4.out HT.out HC.out hl HX.out HS.out (by omega)).mono ?_
  rintro e1 W5 ⟨rfl, hI5, hb5, hk5⟩
  have HI5 := Lib.hid hI5
  have HB5 := Lib.hid (HB4.out.trans (hb5.mono (by omega)))
  clear hI5 hb5 hk5 hc11 hc12 hc13 hc14 hc15 hc16 hc17 hc18
  go_wp2_with fail
  refine (string_some 92 (w.heap.size + 1) (w.heap.size + 1) (witT lv x l) W5 HI5.out (by simp [witT, levelT, numB])).mono ?_
  rintro e1 W6 ⟨rfl, hb6⟩
  have HB6 := Lib.hid (HB5.out.trans (hb6.mono (by omega)))
  clear hb6
  go_wp2_with fail
  go_ret
  exact ⟨rfl, HB6.out⟩
end Go.Proofs.YtcabnjinfkjnjaaDoor.XH
