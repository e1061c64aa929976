/- GIVEN CONTRACTS (this session's): hist.Spot and hist.Number, in the form in which the print states its own. -/
import Derived.Test.YtcabnjinfkjnjaaDoorGSpots
import Derived.Test.YtcabnjinfkjnjaaDoorXHx1
namespace Go.Proofs.YtcabnjinfkjnjaaDoor.XH
open Go.RowKit Go.Shelf Go.Proofs.YtcabnjinfkjnjaaDoorW.PrintWords Go.Proofs.YtcabnjinfkjnjaaDoorW.PrintLast Go.Proofs.YtcabnjinfkjnjaaDoorW.PrintMore Go.Proofs.YtcabnjinfkjnjaaDoor.X
set_option linter.unusedVariables false
attribute [local go_sem] Oper.semAt_some

/-- A block of cells of one's own, whole. -/
def BlockIs (W : World) (B : Nat) (t : TypeId) (cs : Array Value) : Prop := W.heap[B]? = some (.cells cs t (0, 0))
theorem BlockIs.lt {W : World} {B : Nat} {t : TypeId} {cs : Array Value} (h : BlockIs W B t cs) : B < W.heap.size := (Array.getElem?_eq_some_iff.1 h).1
theorem BlockIs.new (W : World) (t : TypeId) (cs : Array Value) : BlockIs (W.alloc (.cells cs t)) W.heap.size t cs := World.alloc_heap_new W _
theorem BlockIs.kept {W W' : World} {row : Option Nat} {B : Nat} {t : TypeId} {cs : Array Value} (h : BlockIs W B t cs) (hg : W.grownBy W' row) (hne : some B ≠ row) : BlockIs W' B t cs := (hg.block B h.lt hne).trans h
theorem BlockIs.alloc {W : World} {B : Nat} {t : TypeId} {cs : Array Value} (h : BlockIs W B t cs) (o : Obj) : BlockIs (W.alloc o) B t cs := h.kept (World.grownBy_alloc W o none) (by simp)
theorem BlockIs.cell {W : World} {B : Nat} {t : TypeId} {cs : Array Value} (h : BlockIs W B t cs) (i : Nat) : W.cell? ⟨B, i, none⟩ = cs[i]? := by simp [World.cell?, show W.heap[B]? = _ from h]
theorem BlockIs.frozen {W : World} {B : Nat} {t : TypeId} {cs : Array Value} (h : BlockIs W B t cs) (i : Nat) : W.frozen? ⟨B, i, none⟩ = false := by simp [World.frozen?, show W.heap[B]? = _ from h]
theorem blockIs_own {β : Type} (B : Nat) (t : TypeId) (f : β → Array Value) : Own (fun s W => BlockIs W B t (f s)) := fun s X Y row hs hg hrow =>
  hs.kept hg (fun e' => by obtain ⟨o, ho, hc⟩ := hrow B e'.symm; rw [show X.heap[B]? = _ from hs] at ho; cases ho; cases hc)
theorem BlockIs.set {W : World} {B : Nat} {t : TypeId} {cs : Array Value} (i : Nat) (v' : Value) (h : BlockIs W B t cs) : BlockIs (W.setCell ⟨B, i, none⟩ v') B t (cs.setIfInBounds i v') := by
  obtain ⟨hlt, hk⟩ := Array.getElem?_eq_some_iff.1 h
  show (W.heap.modify B _)[B]? = _
  rw [Array.getElem?_eq_getElem (by rw [Array.size_modify]; exact hlt), Array.getElem_modify_self, hk]
  rfl
theorem BlockIs.other {W : World} {B B' : Nat} {t : TypeId} {cs : Array Value} (h : BlockIs W B t cs) (hne : B ≠ B') (i : Nat) (u : Value) : BlockIs (W.setCell ⟨B', i, none⟩ u) B t cs := by
  show (W.setCell _ _).heap[B]? = _
  rw [Below.heap_setCell _ _ _ B hne]
  exact h

def spotV (h : List (List S61)) (i : Int) : Int × Int × Bool := if i < 0 then (0, 0, false) else match (spotsL h)[i.toNat]? with | some x => ((x.1 : Int), (x.2 : Int), true) | none => (0, 0, false)

set_option maxRecDepth 100000 in
set_option maxHeartbeats 4000000 in
theorem spot_in (F : Fence) (n : Nat) (h31 : F.fn 31) (h66 : F.fn 66) (h90 : F.fn 90) (hro : F.round = none) (hn : 6 ≤ n) (A : Option Addr) (c0 : Nat) (h : List (List S61)) (i : Int) (hi : 0 ≤ i) (hi2 : i ≤ 9223372036854775807) (w : World) (hC : Kd.C (Kd.slice 61 k61) w A h.length h) :
    CallsIn F n Tryd.prog 31 #[.slice A h.length c0, .int .i64 i] w fun e W' => (∃ r, r = spotV h i ∧ e = .returned (.tuple #[.agg #[.int .i64 r.1, .int .i64 r.2.1], .bool r.2.2])) ∧ Below w.heap.size w W' := by
  have h1 : 1 ≤ n := by omega
  refine callsIn_of_wp_marks Tryd.func31 rfl h31 ?_ hro
  simp only [Tryd.ntmps31, List.size_toArray, List.length_cons, List.length_nil, Nat.reduceAdd, Nat.reduceSub, Array.replicate_succ, Array.replicate_zero, List.push_toArray, List.append_toArray, List.nil_append, List.cons_append]
  have HC := Lib.hid hC
  clear hC
  gi_wp2_with (gi_at_call 66; refine (spots_in F (n - 1) h66 hro _ _ _ _).mono ?_; rintro e w' ⟨rfl, rfl⟩)
  have bI := (((Boxed.new w 3 (.int .i64 i)).alloc (.cells #[.int .i64 0, .int .i64 0] 55)).alloc (.cells #[.bool false] 4)).alloc (.cells #[.slice A h.length c0] 49)
  have bS := ((BlockIs.new (w.alloc (.cells #[.int .i64 i] 3)) 55 #[.int .i64 0, .int .i64 0]).alloc (.cells #[.bool false] 4)).alloc (.cells #[.slice A h.length c0] 49)
  have bO := (Boxed.new ((w.alloc (.cells #[.int .i64 i] 3)).alloc (.cells #[.int .i64 0, .int .i64 0] 55)) 4 (.bool false)).alloc (.cells #[.slice A h.length c0] 49)
  have bH := Boxed.new (((w.alloc (.cells #[.int .i64 i] 3)).alloc (.cells #[.int .i64 0, .int .i64 0] 55)).alloc (.cells #[.bool false] 4)) 49 (.slice A h.length c0)
  simp only [World.size_alloc] at bS bO bH
  have hB0 : Below w.heap.size w ((((w.alloc (.cells #[.int .i64 i] 3)).alloc (.cells #[.int .i64 0, .int .i64 0] 55)).alloc (.cells #[.bool false] 4)).alloc (.cells #[.slice A h.length c0] 49)) :=
    ((((Below.refl _ w).alloc (Nat.le_refl _) _).alloc (by simp) _).alloc (by simp; omega) _).alloc (by simp; omega) _
  have hsz : ((((w.alloc (.cells #[.int .i64 i] 3)).alloc (.cells #[.int .i64 0, .int .i64 0] 55)).alloc (.cells #[.bool false] 4)).alloc (.cells #[.slice A h.length c0] 49)).heap.size = w.heap.size + 4 := by simp
  obtain ⟨W0, hW0⟩ : ∃ W0, (((w.alloc (.cells #[.int .i64 i] 3)).alloc (.cells #[.int .i64 0, .int .i64 0] 55)).alloc (.cells #[.bool false] 4)).alloc (.cells #[.slice A h.length c0] 49) = W0 := ⟨_, rfl⟩
  rw [hW0] at bI bS bO bH hB0 hsz ⊢
  clear hW0
  have hdf : decide (i < 0) = false := decide_eq_false (by omega)
  rw [hdf]
  clear hdf
  refine wpIn_rangeFunc_ownH hro h1 (gf := 90) (lb := #[.pointer (some ⟨w.heap.size + 1 + 1 + 1, 0, none⟩)]) rfl h90 (enters_of Tryd.func90 (by kernel_rfl) rfl)
    (spots_stops F (n - 1) h90 hro (by omega) (w.heap.size + 1 + 1 + 1) A c0 h w HC.out W0 (by omega) hB0 bH.cell) belowK_t (belowK_b (by omega)) (Below.refl _ _) (fun _ => rfl)
    (fun pre W => ((((pre.length : Int) ≤ i ∧ Boxed W w.heap.size 3 (.int .i64 (i - pre.length))) ∧ BlockIs W (w.heap.size + 1) 55 #[.int .i64 0, .int .i64 0]) ∧ Boxed W (w.heap.size + 1 + 1) 4 (.bool false)) ∧ Below w.heap.size w W)
    (fun c pre W => ((c = .ret ∧ ∃ q x, pre = q ++ [x] ∧ (q.length : Int) = i ∧ BlockIs W (w.heap.size + 1) 55 #[.int .i64 (x.1 : Int), .int .i64 (x.2 : Int)]) ∧ Boxed W (w.heap.size + 1 + 1) 4 (.bool true)) ∧ Below w.heap.size w W)
    (OwnFrom.and (OwnFrom.and (OwnFrom.and (OwnFrom.and (ownFrom_pure _ _) (Own.from (boxed_own _ _ _) _)) (Own.from (blockIs_own _ _ (fun _ => #[.int .i64 0, .int .i64 0])) _)) (Own.from (boxed_own _ _ _) _)) (ownFrom_below (Nat.le_refl _) (by omega)))
    (fun c => OwnFrom.and (OwnFrom.and (fun s X Y row hs hg hr => by obtain ⟨e1, q, x, e2, e3, hb⟩ := hs; exact ⟨e1, q, x, e2, e3, blockIs_own _ 55 (fun (_ : Unit) => #[.int .i64 (x.1 : Int), .int .i64 (x.2 : Int)]) () X Y row hb hg (fun r e => (hr r e).2)⟩) (Own.from (boxed_own _ _ _) _)) (ownFrom_below (Nat.le_refl _) (by omega)))
    ⟨⟨⟨⟨by simpa using hi, by simpa using bI⟩, bS⟩, bO⟩, hB0⟩
    (fun x a' W => ∃ Bx, w.heap.size + 1 + 1 < Bx ∧ BlockIs W Bx 55 #[.int .i64 (x.1 : Int), .int .i64 (x.2 : Int)] ∧ a' = { tmps := #[.slice A h.length c0, .int .i64 i, undef, .pointer (some ⟨w.heap.size, 0, none⟩), .pointer (some ⟨w.heap.size + 1, 0, none⟩), .pointer (some ⟨w.heap.size + 1 + 1, 0, none⟩), .pointer (some ⟨Bx, 0, none⟩), .int .i64 i, .bool false, undef, .slice A h.length c0, .func (.func 90) #[] #[.pointer (some ⟨w.heap.size + 1 + 1 + 1, 0, none⟩)], .agg #[.int .i64 (x.1 : Int), .int .i64 (x.2 : Int)], undef, undef, undef, undef, undef, undef], defers := [] })
    (fun x a' _ X Y row hs hg hr => by obtain ⟨Bx, e1, e2, e3⟩ := hs; exact ⟨Bx, e1, blockIs_own Bx 55 (fun (_ : Unit) => #[.int .i64 (x.1 : Int), .int .i64 (x.2 : Int)]) () X Y row e2 hg (fun r e => (hr r e).2), e3⟩)
    ?assign ?body ?done ?stop
  case assign =>
    rintro l pre x W K ⟨⟨⟨⟨hp, bI1⟩, bS1⟩, bO1⟩, hB1⟩ hK
    dsimp only [encSpot]
    gi_wp2
    exact hK _ _ ((KeepsOthers.alloc _ _).from _) ((Below.refl _ W).alloc hB1.size _) ⟨⟨⟨⟨hp, bI1.alloc _⟩, bS1.alloc _⟩, bO1.alloc _⟩, hB1.alloc hB1.size _⟩ ⟨W.heap.size, bO1.lt, BlockIs.new W 55 _, rfl⟩
  case body =>
    rintro l pre x a' W hl ⟨r, hr⟩ ⟨⟨⟨⟨hp, bI1⟩, bS1⟩, bO1⟩, hB1⟩ ⟨Bx, hBx, bX, rfl⟩ hlt
    have cI := bI1.cell
    have fI := bI1.frozen
    have cX0 := bX.cell 0
    have cX1 := bX.cell 1
    have cS0 := bS1.cell 0
    have cS1 := bS1.cell 1
    have fS0 := bS1.frozen 0
    have fS1 := bS1.frozen 1
    have cO := bO1.cell
    have fO := bO1.frozen
    by_cases hz : (pre.length : Int) = i
    · have he : ((i - (pre.length : Int)) == 0) = true := by rw [beq_iff_eq]; omega
      gi_wp2
      refine ⟨((KeepsOthers.setCell _ _ _).trans ((KeepsOthers.setCell _ _ _).trans (KeepsOthers.setCell _ _ _))).from _, ⟨⟨rfl, pre, x, rfl, hz, ?_⟩, ?_⟩, ?_⟩
      · exact ((bS1.set 0 _).set 1 _).other (by omega) 0 _
      · exact Boxed.set _ (BlockIs.other (BlockIs.other bO1 (by omega) 0 _) (by omega) 1 _)
      · exact ((hB1.setCell (p := ⟨w.heap.size + 1, 0, none⟩) (by simp) _).setCell (p := ⟨w.heap.size + 1, 1, none⟩) (by simp) _).setCell (p := ⟨w.heap.size + 1 + 1, 0, none⟩) (by simp; omega) _
    · have he : ((i - (pre.length : Int)) == 0) = false := by rw [beq_eq_false_iff_ne]; omega
      gi_wp2
      refine ⟨(KeepsOthers.setCell _ _ _).from _, (Below.refl w.heap.size W).setCell (p := ⟨w.heap.size, 0, none⟩) (Nat.le_refl _) _, ⟨⟨⟨?_, ?_⟩, ?_⟩, ?_⟩, ?_⟩
      · rw [List.length_append, List.length_singleton]; omega
      · have hv : i - ((pre ++ [x]).length : Int) = i - (pre.length : Int) - 1 := by rw [List.length_append, List.length_singleton]; omega
        rw [hv]
        exact Boxed.set _ bI1
      · exact bS1.other (by omega) 0 _
      · exact BlockIs.other bO1 (by omega) 0 _
      · exact hB1.setCell (p := ⟨w.heap.size, 0, none⟩) (Nat.le_refl _) _
  case done =>
    rintro D zs W hD rfl ⟨⟨⟨⟨hp, bI1⟩, bS1⟩, bO1⟩, hB1⟩ hK
    have cS0 := bS1.cell 0
    have cS1 := bS1.cell 1
    have fS0 := bS1.frozen 0
    have fS1 := bS1.frozen 1
    have cO := bO1.cell
    have fO := bO1.frozen
    gi_wp2
    have b1 := (((bS1.set 0 (.int .i64 0)).set 1 (.int .i64 0)).other (B' := w.heap.size + 1 + 1) (by omega) 0 (.bool false))
    have b2 := Boxed.set (.bool false) (BlockIs.other (BlockIs.other bO1 (B' := w.heap.size + 1) (by omega) 0 (.int .i64 0)) (B' := w.heap.size + 1) (by omega) 1 (.int .i64 0))
    have hB2 := ((hB1.setCell (p := ⟨w.heap.size + 1, 0, none⟩) (by simp) (.int .i64 0)).setCell (p := ⟨w.heap.size + 1, 1, none⟩) (by simp) (.int .i64 0)).setCell (p := ⟨w.heap.size + 1 + 1, 0, none⟩) (by simp; omega) (.bool false)
    have hK' := ((KeepsOthers.setCell W ⟨w.heap.size + 1, 0, none⟩ (.int .i64 0)).trans ((KeepsOthers.setCell _ ⟨w.heap.size + 1, 1, none⟩ (.int .i64 0)).trans (KeepsOthers.setCell _ ⟨w.heap.size + 1 + 1, 0, none⟩ (.bool false)))).same D _ hK rfl
    refine ⟨by simp, .inl ⟨_, _, rfl, run_takeDeferred hK', ?_⟩⟩
    have hcO := cell_kept b2.cell (grownBy_putObj' _ D (.deferred none)) (fun r e => by cases e; exact ⟨_, hK', rfl⟩)
    have hcS0 := cell_kept (b1.cell 0) (grownBy_putObj' _ D (.deferred none)) (fun r e => by cases e; exact ⟨_, hK', rfl⟩)
    have hcS1 := cell_kept (b1.cell 1) (grownBy_putObj' _ D (.deferred none)) (fun r e => by cases e; exact ⟨_, hK', rfl⟩)
    have hval : spotV h i = (0, 0, false) := by
      unfold spotV
      rw [if_neg (by omega), List.getElem?_eq_none (by omega)]
    refine ⟨.tuple #[.agg #[.int .i64 0, .int .i64 0], .bool false], ?_, ⟨_, rfl, by rw [hval]⟩, hB2.trans (belowK_b (w := w) (Nat.le_refl _) _ D _ _ (by omega) hK' rfl rfl)⟩
    simp [results, Tryd.f31, go_sem, hcO, hcS0, hcS1]
  case stop =>
    rintro D c pre W hD hpre ⟨⟨⟨rfl, q, x, e1, e2, bS1⟩, bO1⟩, hB1⟩ hK
    gi_wp2
    refine ⟨by simp, .inl ⟨_, _, rfl, run_takeDeferred hK, ?_⟩⟩
    have hcO := cell_kept bO1.cell (grownBy_putObj' _ D (.deferred none)) (fun r e => by cases e; exact ⟨_, hK, rfl⟩)
    have hcS0 := cell_kept (bS1.cell 0) (grownBy_putObj' _ D (.deferred none)) (fun r e => by cases e; exact ⟨_, hK, rfl⟩)
    have hcS1 := cell_kept (bS1.cell 1) (grownBy_putObj' _ D (.deferred none)) (fun r e => by cases e; exact ⟨_, hK, rfl⟩)
    have hval : spotV h i = ((x.1 : Int), (x.2 : Int), true) := by
      unfold spotV
      rw [if_neg (by omega)]
      have : (spotsL h)[i.toNat]? = some x := by
        obtain ⟨t, ht⟩ := hpre
        have hl : i.toNat = q.length := by omega
        rw [← ht, e1, hl]
        simp
      rw [this]
    refine ⟨.tuple #[.agg #[.int .i64 (x.1 : Int), .int .i64 (x.2 : Int)], .bool true], ?_, ⟨_, rfl, by rw [hval]⟩, hB1.trans (belowK_b (w := w) (Nat.le_refl _) W D _ _ (by omega) hK rfl rfl)⟩
    simp [results, Tryd.f31, go_sem, hcO, hcS0, hcS1]

set_option maxHeartbeats 1000000 in
theorem spot_neg (A : Option Addr) (c0 : Nat) (h : List (List S61)) (i : Int) (hi : i < 0) (w : World) :
    Calls Tryd.prog 31 #[.slice A h.length c0, .int .i64 i] w fun e W' => e = .returned (.tuple #[.agg #[.int .i64 0, .int .i64 0], .bool false]) ∧ Below w.heap.size w W' := by
  go_enter Tryd.func31, Tryd.ntmps31
  go_wp2
  exact bodyPost_ret (v := .tuple #[.agg #[.int .i64 0, .int .i64 0], .bool false]) (by simp [results, Tryd.results31, go_sem]) rfl ⟨rfl, ((((Below.refl _ w).alloc (Nat.le_refl _) _).alloc (by simp) _).alloc (by simp; omega) _)⟩
def hist_Spot.f (h : List (List S61)) (i : Int) : Option (Int × Int × Bool) := if i ≤ 9223372036854775807 then some (spotV h i) else none
theorem hist_Spot.calls (A0 : Option Addr) (c0 : Nat) (l0 : List (List S61)) (a1 : Int) (r1 r2 : Int) (r3 : Bool) (w : World) (hr0 : Kd.C (Kd.slice 61 k61) w A0 l0.length l0) (hc0 : l0.length ≤ c0) (h : hist_Spot.f l0 a1 = some (r1, r2, r3)) :
    Calls Tryd.prog 31 #[.slice A0 l0.length c0, .int .i64 a1] w fun e w' => e = .returned (.tuple #[.agg #[.int .i64 r1, .int .i64 r2], .bool r3]) ∧ Below w.heap.size w w' := by
  unfold hist_Spot.f at h
  split at h
  · rename_i hb
    have hv := Option.some.inj h
    by_cases hi : a1 < 0
    · have : spotV l0 a1 = (0, 0, false) := by unfold spotV; rw [if_pos hi]
      rw [this] at hv
      simp only [Prod.mk.injEq] at hv
      obtain ⟨rfl, rfl, rfl⟩ := hv
      exact spot_neg A0 c0 l0 a1 hi w
    · refine (callsIn_wide (n := 6)).1 ?_
      refine (spot_in Fence.wide 6 trivial trivial trivial rfl (by omega) A0 c0 l0 a1 (by omega) hb w hr0).mono ?_
      rintro e W' ⟨⟨r, rfl, rfl⟩, hB⟩
      rw [hv]
      exact ⟨rfl, hB⟩
  · cases h

def isAt (a b : Int) (x : Nat × Nat) : Bool := (x.1 : Int) == a && (x.2 : Int) == b
def numberV (h : List (List S61)) (a b : Int) : Int × Bool := match (spotsL h).findIdx? (isAt a b) with | some k => ((k : Int), true) | none => (0, false)

attribute [local go_sem high] eqA55
set_option maxRecDepth 100000 in
set_option maxHeartbeats 4000000 in
theorem number_in (F : Fence) (n : Nat) (h32 : F.fn 32) (h66 : F.fn 66) (h90 : F.fn 90) (hro : F.round = none) (hn : 6 ≤ n) (A : Option Addr) (c0 : Nat) (h : List (List S61)) (a b : Int) (hN : (spotsL h).length ≤ 9223372036854775807) (w : World) (hC : Kd.C (Kd.slice 61 k61) w A h.length h) :
    CallsIn F n Tryd.prog 32 #[.slice A h.length c0, .agg #[.int .i64 a, .int .i64 b]] w fun e W' => (∃ r, r = numberV h a b ∧ e = .returned (.tuple #[.int .i64 r.1, .bool r.2])) ∧ Below w.heap.size w W' := by
  have h1 : 1 ≤ n := by omega
  refine callsIn_of_wp_marks Tryd.func32 rfl h32 ?_ hro
  simp only [Tryd.ntmps32, List.size_toArray, List.length_cons, List.length_nil, Nat.reduceAdd, Nat.reduceSub, Array.replicate_succ, Array.replicate_zero, List.push_toArray, List.append_toArray, List.nil_append, List.cons_append]
  have HC := Lib.hid hC
  clear hC
  gi_wp2_with (gi_at_call 66; refine (spots_in F (n - 1) h66 hro _ _ _ _).mono ?_; rintro e w' ⟨rfl, rfl⟩)
  have bA := ((((BlockIs.new w 55 #[.int .i64 a, .int .i64 b]).alloc (.cells #[.int .i64 0] 3)).alloc (.cells #[.bool false] 4)).alloc (.cells #[.int .i64 0] 3)).alloc (.cells #[.slice A h.length c0] 49)
  have bR := (((Boxed.new (w.alloc (.cells #[.int .i64 a, .int .i64 b] 55)) 3 (.int .i64 0)).alloc (.cells #[.bool false] 4)).alloc (.cells #[.int .i64 0] 3)).alloc (.cells #[.slice A h.length c0] 49)
  have bO := ((Boxed.new ((w.alloc (.cells #[.int .i64 a, .int .i64 b] 55)).alloc (.cells #[.int .i64 0] 3)) 4 (.bool false)).alloc (.cells #[.int .i64 0] 3)).alloc (.cells #[.slice A h.length c0] 49)
  have bI := (Boxed.new (((w.alloc (.cells #[.int .i64 a, .int .i64 b] 55)).alloc (.cells #[.int .i64 0] 3)).alloc (.cells #[.bool false] 4)) 3 (.int .i64 0)).alloc (.cells #[.slice A h.length c0] 49)
  have bH := Boxed.new ((((w.alloc (.cells #[.int .i64 a, .int .i64 b] 55)).alloc (.cells #[.int .i64 0] 3)).alloc (.cells #[.bool false] 4)).alloc (.cells #[.int .i64 0] 3)) 49 (.slice A h.length c0)
  simp only [World.size_alloc] at bR bO bI bH
  have hB0 : Below w.heap.size w (((((w.alloc (.cells #[.int .i64 a, .int .i64 b] 55)).alloc (.cells #[.int .i64 0] 3)).alloc (.cells #[.bool false] 4)).alloc (.cells #[.int .i64 0] 3)).alloc (.cells #[.slice A h.length c0] 49)) :=
    (((((Below.refl _ w).alloc (Nat.le_refl _) _).alloc (by simp) _).alloc (by simp; omega) _).alloc (by simp; omega) _).alloc (by simp; omega) _
  have hsz : (((((w.alloc (.cells #[.int .i64 a, .int .i64 b] 55)).alloc (.cells #[.int .i64 0] 3)).alloc (.cells #[.bool false] 4)).alloc (.cells #[.int .i64 0] 3)).alloc (.cells #[.slice A h.length c0] 49)).heap.size = w.heap.size + 5 := by simp
  obtain ⟨W0, hW0⟩ : ∃ W0, (((((w.alloc (.cells #[.int .i64 a, .int .i64 b] 55)).alloc (.cells #[.int .i64 0] 3)).alloc (.cells #[.bool false] 4)).alloc (.cells #[.int .i64 0] 3)).alloc (.cells #[.slice A h.length c0] 49)) = W0 := ⟨_, rfl⟩
  rw [hW0] at bA bR bO bI bH hB0 hsz ⊢
  clear hW0
  refine wpIn_rangeFunc_ownH hro h1 (gf := 90) (lb := #[.pointer (some ⟨w.heap.size + 1 + 1 + 1 + 1, 0, none⟩)]) rfl h90 (enters_of Tryd.func90 (by kernel_rfl) rfl)
    (spots_stops F (n - 1) h90 hro (by omega) (w.heap.size + 1 + 1 + 1 + 1) A c0 h w HC.out W0 (by omega) hB0 bH.cell) belowK_t (belowK_b (by omega)) (Below.refl _ _) (fun _ => rfl)
    (fun pre W => (((((∀ y ∈ pre, isAt a b y = false) ∧ Boxed W (w.heap.size + 1 + 1 + 1) 3 (.int .i64 (pre.length : Int))) ∧ BlockIs W w.heap.size 55 #[.int .i64 a, .int .i64 b]) ∧ Boxed W (w.heap.size + 1) 3 (.int .i64 0)) ∧ Boxed W (w.heap.size + 1 + 1) 4 (.bool false)) ∧ Below w.heap.size w W)
    (fun c pre W => ((c = .ret ∧ ∃ q x, pre = q ++ [x] ∧ (∀ y ∈ q, isAt a b y = false) ∧ isAt a b x = true ∧ Boxed W (w.heap.size + 1) 3 (.int .i64 (q.length : Int))) ∧ Boxed W (w.heap.size + 1 + 1) 4 (.bool true)) ∧ Below w.heap.size w W)
    (OwnFrom.and (OwnFrom.and (OwnFrom.and (OwnFrom.and (OwnFrom.and (ownFrom_pure _ _) (Own.from (boxed_own _ _ _) _)) (Own.from (blockIs_own _ _ (fun _ => #[.int .i64 a, .int .i64 b])) _)) (Own.from (boxed_own _ _ _) _)) (Own.from (boxed_own _ _ _) _)) (ownFrom_below (Nat.le_refl _) (by omega)))
    (fun c => OwnFrom.and (OwnFrom.and (fun s X Y row hs hg hr => by obtain ⟨e1, q, x, e2, e3, e4, hb⟩ := hs; exact ⟨e1, q, x, e2, e3, e4, boxed_own _ 3 (fun (_ : Unit) => Value.int .i64 (q.length : Int)) () X Y row hb hg (fun r e => (hr r e).2)⟩) (Own.from (boxed_own _ _ _) _)) (ownFrom_below (Nat.le_refl _) (by omega)))
    ⟨⟨⟨⟨⟨by simp, bI⟩, bA⟩, bR⟩, bO⟩, hB0⟩
    (fun x a' W => ∃ Bx, w.heap.size + 1 + 1 + 1 < Bx ∧ BlockIs W Bx 55 #[.int .i64 (x.1 : Int), .int .i64 (x.2 : Int)] ∧ a' = { tmps := #[.slice A h.length c0, .agg #[.int .i64 a, .int .i64 b], undef, .pointer (some ⟨w.heap.size, 0, none⟩), .pointer (some ⟨w.heap.size + 1, 0, none⟩), .pointer (some ⟨w.heap.size + 1 + 1, 0, none⟩), .pointer (some ⟨w.heap.size + 1 + 1 + 1, 0, none⟩), .pointer (some ⟨Bx, 0, none⟩), .slice A h.length c0, .func (.func 90) #[] #[.pointer (some ⟨w.heap.size + 1 + 1 + 1 + 1, 0, none⟩)], .agg #[.int .i64 (x.1 : Int), .int .i64 (x.2 : Int)], undef, undef, undef, undef, undef, undef], defers := [] })
    (fun x a' _ X Y row hs hg hr => by obtain ⟨Bx, e1, e2, e3⟩ := hs; exact ⟨Bx, e1, blockIs_own Bx 55 (fun (_ : Unit) => #[.int .i64 (x.1 : Int), .int .i64 (x.2 : Int)]) () X Y row e2 hg (fun r e => (hr r e).2), e3⟩)
    ?assign ?body ?done ?stop
  case assign =>
    rintro l pre x W K ⟨⟨⟨⟨⟨hp, bI1⟩, bA1⟩, bR1⟩, bO1⟩, hB1⟩ hK
    dsimp only [encSpot]
    gi_wp2
    exact hK _ _ ((KeepsOthers.alloc _ _).from _) ((Below.refl _ W).alloc hB1.size _) ⟨⟨⟨⟨⟨hp, bI1.alloc _⟩, bA1.alloc _⟩, bR1.alloc _⟩, bO1.alloc _⟩, hB1.alloc hB1.size _⟩ ⟨W.heap.size, bI1.lt, BlockIs.new W 55 _, rfl⟩
  case body =>
    rintro l pre x a' W hl ⟨r, hr⟩ ⟨⟨⟨⟨⟨hp, bI1⟩, bA1⟩, bR1⟩, bO1⟩, hB1⟩ ⟨Bx, hBx, bX, rfl⟩ hlt
    have cI := bI1.cell
    have fI := bI1.frozen
    have cX0 := bX.cell 0
    have cX1 := bX.cell 1
    have cA0 := bA1.cell 0
    have cA1 := bA1.cell 1
    have cR := bR1.cell
    have fR := bR1.frozen
    have cO := bO1.cell
    have fO := bO1.frozen
    cases hz : isAt a b x with
    | true =>
      have he : ((x.1 : Int) == a && (x.2 : Int) == b) = true := hz
      have HP := Lib.hid hp
      have HZ := Lib.hid hz
      clear hp hz
      gi_wp2
      refine ⟨((KeepsOthers.setCell _ _ _).trans (KeepsOthers.setCell _ _ _)).from _, ⟨⟨rfl, pre, x, rfl, HP.out, HZ.out, ?_⟩, ?_⟩, ?_⟩
      · exact Boxed.other (Boxed.set _ bR1) (by omega) _
      · exact Boxed.set _ (Boxed.other bO1 (by omega) _)
      · exact (hB1.setCell (p := ⟨w.heap.size + 1, 0, none⟩) (by simp) _).setCell (p := ⟨w.heap.size + 1 + 1, 0, none⟩) (by simp; omega) _
    | false =>
      have he : ((x.1 : Int) == a && (x.2 : Int) == b) = false := hz
      have HP := Lib.hid hp
      have HZ := Lib.hid hz
      clear hp hz
      gi_wp2
      refine ⟨(KeepsOthers.setCell _ _ _).from _, (Below.refl w.heap.size W).setCell (p := ⟨w.heap.size + 1 + 1 + 1, 0, none⟩) (by simp; omega) _, ⟨⟨⟨⟨?_, ?_⟩, ?_⟩, ?_⟩, ?_⟩, ?_⟩
      · intro y hy
        rcases List.mem_append.1 hy with hy | hy
        · exact HP.out y hy
        · rw [List.mem_singleton.1 hy]; exact HZ.out
      · have hv : ((pre ++ [x]).length : Int) = (pre.length : Int) + 1 := by rw [List.length_append, List.length_singleton]; omega
        rw [hv]
        exact Boxed.set _ bI1
      · exact bA1.other (by omega) 0 _
      · exact Boxed.other bR1 (by omega) _
      · exact Boxed.other bO1 (by omega) _
      · exact hB1.setCell (p := ⟨w.heap.size + 1 + 1 + 1, 0, none⟩) (by simp; omega) _
  case done =>
    rintro D zs W hD rfl ⟨⟨⟨⟨⟨hp, bI1⟩, bA1⟩, bR1⟩, bO1⟩, hB1⟩ hK
    have cR := bR1.cell
    have fR := bR1.frozen
    have cO := bO1.cell
    have fO := bO1.frozen
    gi_wp2
    have b1 := (Boxed.set (.int .i64 0) bR1).other (B' := w.heap.size + 1 + 1) (by omega) (.bool false)
    have b2 := Boxed.set (.bool false) (Boxed.other bO1 (B' := w.heap.size + 1) (by omega) (.int .i64 0))
    have hB2 := (hB1.setCell (p := ⟨w.heap.size + 1, 0, none⟩) (by simp) (.int .i64 0)).setCell (p := ⟨w.heap.size + 1 + 1, 0, none⟩) (by simp; omega) (.bool false)
    have hK' := ((KeepsOthers.setCell W ⟨w.heap.size + 1, 0, none⟩ (.int .i64 0)).trans (KeepsOthers.setCell _ ⟨w.heap.size + 1 + 1, 0, none⟩ (.bool false))).same D _ hK rfl
    refine ⟨by simp, .inl ⟨_, _, rfl, run_takeDeferred hK', ?_⟩⟩
    have hcO := cell_kept b2.cell (grownBy_putObj' _ D (.deferred none)) (fun r e => by cases e; exact ⟨_, hK', rfl⟩)
    have hcR := cell_kept b1.cell (grownBy_putObj' _ D (.deferred none)) (fun r e => by cases e; exact ⟨_, hK', rfl⟩)
    have hval : numberV h a b = (0, false) := by
      unfold numberV
      rw [List.findIdx?_eq_none_iff.2 hp]
    refine ⟨.tuple #[.int .i64 0, .bool false], ?_, ⟨_, rfl, by rw [hval]⟩, hB2.trans (belowK_b (w := w) (Nat.le_refl _) _ D _ _ (by omega) hK' rfl rfl)⟩
    simp [results, Tryd.f32, go_sem, hcO, hcR]
  case stop =>
    rintro D c pre W hD hpre ⟨⟨⟨rfl, q, x, e1, e2, e3, bR1⟩, bO1⟩, hB1⟩ hK
    gi_wp2
    refine ⟨by simp, .inl ⟨_, _, rfl, run_takeDeferred hK, ?_⟩⟩
    have hcO := cell_kept bO1.cell (grownBy_putObj' _ D (.deferred none)) (fun r e => by cases e; exact ⟨_, hK, rfl⟩)
    have hcR := cell_kept bR1.cell (grownBy_putObj' _ D (.deferred none)) (fun r e => by cases e; exact ⟨_, hK, rfl⟩)
    have hval : numberV h a b = ((q.length : Int), true) := by
      unfold numberV
      have : (spotsL h).findIdx? (isAt a b) = some q.length := by
        obtain ⟨t, ht⟩ := hpre
        rw [← ht, e1, List.append_assoc, List.findIdx?_append, List.findIdx?_eq_none_iff.2 e2]
        simp [List.findIdx?_cons, e3]
      rw [this]
    refine ⟨.tuple #[.int .i64 (q.length : Int), .bool true], ?_, ⟨_, rfl, by rw [hval]⟩, hB1.trans (belowK_b (w := w) (Nat.le_refl _) W D _ _ (by omega) hK rfl rfl)⟩
    simp [results, Tryd.f32, go_sem, hcO, hcR]

def hist_Number.f (h : List (List S61)) (a b : Int) : Option (Int × Bool) := if (spotsL h).length ≤ 9223372036854775807 then some (numberV h a b) else none
theorem hist_Number.calls (A0 : Option Addr) (c0 : Nat) (l0 : List (List S61)) (a1_0 a1_1 : Int) (r1 : Int) (r2 : Bool) (w : World) (hr0 : Kd.C (Kd.slice 61 k61) w A0 l0.length l0) (hc0 : l0.length ≤ c0) (h : hist_Number.f l0 a1_0 a1_1 = some (r1, r2)) :
    Calls Tryd.prog 32 #[.slice A0 l0.length c0, .agg #[.int .i64 a1_0, .int .i64 a1_1]] w fun e w' => e = .returned (.tuple #[.int .i64 r1, .bool r2]) ∧ Below w.heap.size w w' := by
  unfold hist_Number.f at h
  split at h
  · rename_i hb
    have hv := Option.some.inj h
    refine (callsIn_wide (n := 6)).1 ?_
    refine (number_in Fence.wide 6 trivial trivial trivial rfl (by omega) A0 c0 l0 a1_0 a1_1 hb w hr0).mono ?_
    rintro e W' ⟨⟨r, rfl, rfl⟩, hB⟩
    rw [hv]
    exact ⟨rfl, hB⟩
  · cases h
end Go.Proofs.YtcabnjinfkjnjaaDoor.XH
