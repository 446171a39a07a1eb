/- RttSame: measured the same again and again, the round-trip time is that, and varies less and less. -/
import Derived.Test.YtommnhomccjkkaaCalls
namespace Go.Proofs.Ytommnhomccjkkaa
open Go.RowKit

/-- What holds at the head of each round of RttSame's loop: k of them are done. -/
def SameRel (n m : Int) (w : World) (B : Nat) (x i : Value) (wr : World) : Prop :=
  ∃ k : Nat, i = .int .i64 k ∧ (k : Int) ≤ 1 + m % 60 ∧ Below w.heap.size w wr ∧
    ((k = 0 ∧ x = .int .u64 4611686018427387904 ∧ Box wr B 0 0 333000 166500 false) ∨ (0 < k ∧ ∃ v : Int, 0 ≤ v ∧ v ≤ 1125899906842624 ∧ x = .int .u64 v ∧ Box wr B n n n v true))

set_option maxHeartbeats 1000000 in
theorem same_any (n m : Int) (w : World) (hn : 0 ≤ n) (hn2 : n ≤ 4294967295) (hm : 0 ≤ m) (hm2 : m ≤ 255) :
    Calls Try.prog 3 #[.int .u32 n, .int .u8 m] w fun e w' => e = .returned (.bool true) ∧ Below w.heap.size w w' := by
  go_enter Try.func3, Try.ntmps3
  go_wp2_with fail
  refine (awake_any _).mono ?_
  rintro e w1 ⟨rfl, hb1⟩
  go_wp2_with fail
  refine (new_any _).mono ?_
  rintro e w2 ⟨rfl, hb2⟩
  have hB : w.heap.size ≤ w2.heap.size := Nat.le_trans hb1.size hb2.size
  have hb12 : Below w.heap.size w w2 := hb1.trans (hb2.mono hb1.size)
  go_wp2_with fail
  go_loopw [6, 14] (fun x i wr => SameRel n m w w2.heap.size x i wr)
     (fun x i wr => (1 + m % 60 - intOf i).toNat)
  case atStart => exact ⟨0, rfl, by omega, hb12.alloc hB _, .inl ⟨rfl, rfl, Box.new _ _ _ _ _ _⟩⟩
  case round =>
    obtain ⟨k, rfl, hk, hb, hor⟩ := hrel
    rcases hor with ⟨rfl, rfl, hbox⟩ | ⟨hk0, v, hv, hv2, rfl, hbox⟩
    · obtain ⟨c0, c1, c2, c3, c4, f0, f1, f2, f3, f4⟩ := hbox.cells
      have h0 : (0 : Int) < 1 + m % 60 := by omega
      go_wp2_with fail
      have h := measure_first 0 0 333000 166500 n 0 0 wr (by omega) (by omega)
      rw [show min n Mx = n from by unfold Mx; omega] at h
      refine h.mono ?_
      clear h
      rintro e w3 ⟨rfl, hb3⟩
      have hbox3 := hbox.below hb3
      clear c0 c1 c2 c3 c4 f0 f1 f2 f3 f4
      obtain ⟨c0, c1, c2, c3, c4, f0, f1, f2, f3, f4⟩ := hbox3.cells
      go_wp2_with fail
      go_roundw
      case rel => exact ⟨1, rfl, by omega, below_set5 (hb.trans (hb3.mono hb.size)) hB _ _ _ _ _, .inr ⟨by omega, n / 2, by omega, by omega, rfl, hbox3.set⟩⟩
      case measure => simp [intOf]; omega
    · obtain ⟨c0, c1, c2, c3, c4, f0, f1, f2, f3, f4⟩ := hbox.cells
      by_cases hlt : (k : Int) < 1 + m % 60
      · go_wp2_with fail
        have h := measure_later n n n v n 0 0 wr (by omega) (by omega) (by omega) (by omega) (by omega) (by omega) (by omega) (by omega) (by omega) (by omega)
        rw [show min n Mx = n from by unfold Mx; omega, smp_zero, show min n n = n from by omega, show nSm n n = n from by unfold nSm; omega, show nVar n v n = 3 * v / 4 from by unfold nVar; rw [show max n n - min n n = 0 from by omega, Int.add_zero]] at h
        refine h.mono ?_
        clear h
        rintro e w3 ⟨rfl, hb3⟩
        have hbox3 := hbox.below hb3
        clear c0 c1 c2 c3 c4 f0 f1 f2 f3 f4
        obtain ⟨c0, c1, c2, c3, c4, f0, f1, f2, f3, f4⟩ := hbox3.cells
        go_wp2_with fail
        go_roundw
        case rel => exact ⟨k + 1, by go_num, by omega, below_set5 (hb.trans (hb3.mono hb.size)) hB _ _ _ _ _, .inr ⟨by omega, 3 * v / 4, by omega, by omega, rfl, hbox3.set⟩⟩
        case measure => simp [intOf]; omega
      · go_wp2_with fail
        go_ret
        exact ⟨rfl, hb⟩
end Go.Proofs.Ytommnhomccjkkaa
