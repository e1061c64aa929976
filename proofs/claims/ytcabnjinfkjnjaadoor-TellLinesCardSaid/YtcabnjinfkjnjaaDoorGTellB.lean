/- TELL, by hand, second part: the teller, its lines, a verdict's text. -/
import Derived.Test.YtcabnjinfkjnjaaDoorGTell
import Derived.RegionTactic
import Derived.Deep.RegionWith
import Derived.ChangeAlike
namespace Go.Proofs.YtcabnjinfkjnjaaDoor.XH
open Go.RowKit Go.Proofs.YtcabnjinfkjnjaaDoorW.PrintWords Go.Proofs.YtcabnjinfkjnjaaDoorW.PrintLast Go.Proofs.YtcabnjinfkjnjaaDoorW.PrintMore Go.Proofs.YtcabnjinfkjnjaaDoor.X
set_option linter.unusedVariables false
theorem isBuilder_below' {T : TypeId} {B b : Nat} {bs : List Value} {W W' : World} (h : Lib.IsBuilder T 5 B b bs W) (hB : Below W.heap.size W W') : Lib.IsBuilder T 5 B b bs W' := by
  have mv : ∀ p, Lib.BuilderAt T 5 B b p bs W → Lib.BuilderAt T 5 B b p bs W' := by
    rintro p ⟨h1, v, hbk, hown, hne⟩
    have hlt : b < W.heap.size := (Array.getElem?_eq_some_iff.1 hbk).1
    exact ⟨h1, v, (hB.block b hlt).trans hbk, own_move hown (fun k hk => hB.block k (own_lt hown k hk)), hne⟩
  rcases h with h | h
  · exact .inl (mv _ h)
  · exact .inr (mv _ h)
theorem below_wide' {w a b : World} {B : Nat} (h : Below w.heap.size w a) (hb : Below B a b) (hle : B ≤ w.heap.size) : Below B w b := (h.mono hle).trans hb
theorem kept_of {e : TypeId} {b : Option Nat} {w w' : World} (h : Below w.heap.size w w') : Lib.OthersKept e b w w' := fun k o hk _ _ => (h.block k (Array.getElem?_eq_some_iff.1 hk).1).trans hk
def SayPost (B b : Nat) (bs : List UInt8) (w : World) (e : Ending) (w' : World) : Prop := e = .returned (.tuple #[]) ∧ (Lib.IsBuilder 92 5 B b (Lib.byteCells bs) w' ∧ Below B w w' ∧ Lib.OthersKept 5 (some b) w w')
set_option maxHeartbeats 1000000 in
set_option maxRecDepth 100000 in
theorem say_any (B b : Nat) (bs : List UInt8) (A : Option Addr) (c : Nat) (name : ByteArray) (l : List Int) (w : World) (hI : Lib.IsBuilder 92 5 B b (Lib.byteCells bs) w) (hB : B ≤ w.heap.size) (hT : Tabs w) (hC : (Kd.int .i64).C w A l.length l) (hl : l.length ≤ 1000000) (hn : name.size ≤ 1000000) (hi : ∀ n ∈ l, -9223372036854775808 ≤ n ∧ n ≤ 9223372036854775807) (hlen : bs.length ≤ 100000000000) :
    Calls Tryd.prog 59 #[.pointer (some ⟨b, 0, none⟩), .string name, .slice A l.length c] w (SayPost B b (bs ++ numB name.data.toList l) w) := by
  have CN := Lib.hid (fun W (hB : Below w.heap.size w W) => numbers_any A c name l W (hT.below hB) (Kd.C_below hC hB) hl hn hi)
  have HI := Lib.hid hI
  have HBd := Lib.hid (below_drew (Below.refl w.heap.size w))
  have hbs : (lineV (numW name l)).size ≤ 23000001 + 1000000 := by
    rw [lineV_num]
    show (numB name.data.toList l).toArray.size ≤ _
    unfold numB
    have h1 := nums_len l hi
    have e : name.data.toList.length = name.size := Array.length_toList
    simp only [List.size_toArray, List.length_append, List.length_cons, List.length_nil]
    omega
  have CW := Lib.hid (fun W (hIW : Lib.IsBuilder 92 5 B b (Lib.byteCells bs) W) (hBW : B ≤ W.heap.size) => writeString_any 92 tok92 B b (Lib.byteCells bs) (lineV (numW name l)) W hIW (by rw [Lib.byteCells_length]; omega) hBW)
  have hE : Lib.byteCells bs ++ Lib.strCells (lineV (numW name l)) = Lib.byteCells (bs ++ numB name.data.toList l) := by
    rw [lineV_num]
    show _ ++ Lib.byteCells _ = _
    simp [Lib.byteCells]
  have HE := Lib.hid hE
  clear hI hT hC hi hE
  generalize lineV (numW name l) = S at CN CW HE
  go_enter Tryd.func59, Tryd.ntmps59
  go_wp2
  go_region_with (first | (go_at_call 25; go_loud (refine (CN.out _ HBd.out).mono ?_); rintro e w2 ⟨rfl, hB2⟩; have HB2 := Lib.hid (below_step HBd.out hB2); clear hB2) | (go_at_call 82; go_loud (refine (CW.out _ (isBuilder_below' HI.out HB2.out) (Nat.le_trans hB HB2.out.size)).mono ?_); rintro e w3 ⟨rfl, hA3, hb3, hk3⟩; have HA3 := Lib.hid hA3; have Hb3 := Lib.hid hb3; have Hk3 := Lib.hid hk3; clear hA3 hb3 hk3))
  go_end0
  exact ⟨rfl, .inr (by rw [← HE.out]; exact HA3.out), below_wide' HB2.out Hb3.out hB, (kept_of HB2.out).trans Hk3.out⟩
end Go.Proofs.YtcabnjinfkjnjaaDoor.XH
