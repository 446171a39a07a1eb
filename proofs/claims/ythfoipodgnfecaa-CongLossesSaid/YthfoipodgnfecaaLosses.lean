/- CongLosses: all that is lost of one time counts once; never does the window go below the least. -/
import Derived.Test.YthfoipodgnfecaaCalls
import Derived.Lib.Hide
namespace Go.Proofs.Ythfoipodgnfecaa
open Go.RowKit
set_option linter.unusedVariables false

theorem mul_succ_int (k : Nat) (n : Int) : ((k + 1 : Nat) : Int) * n = (k : Int) * n + n := by
  rw [Int.natCast_succ, Int.add_mul, Int.one_mul]
theorem mul_le_int (k : Nat) (n : Int) (K N : Int) (hk : (k : Int) ≤ K) (hn : 0 ≤ n) (hN : n ≤ N) : 0 ≤ (k : Int) * n ∧ (k : Int) * n ≤ K * N :=
  ⟨Int.mul_nonneg (by omega) hn, Int.mul_le_mul hk hN hn (by omega)⟩

theorem run_size (s f l n : Int) (b : Bool) (w : World) : (Instr.field 26 (.agg #[.int .u64 s, .int .u64 f, .int .u64 l, .int .u64 n, .bool b]) 0).run Try.prog w = .ok (.int .u64 s) w := by kernel_rfl

/-- k were sent. -/
def SentRel (n : Int) (w : World) (B : Nat) (i : Value) (wr : World) : Prop :=
  ∃ k : Nat, i = .int .i64 k ∧ k ≤ 20 ∧ Below w.heap.size w wr ∧ Box wr B 12000 ((k : Int) * n) 16777216 0 false
/-- k more were lost of one time. -/
def LostRel (n a : Int) (m : Int) (w : World) (B : Nat) (i : Value) (wr : World) : Prop :=
  ∃ k : Nat, i = .int .i64 k ∧ (k : Int) ≤ m % 15 ∧ Below w.heap.size w wr ∧ Box wr B 6000 (19 * n - (k : Int) * n) 6000 (a + 5) true
/-- k were lost, each of a time of its own. -/
def AnewRel (n a f : Int) (w : World) (B C : Nat) (i : Value) (wr : World) : Prop :=
  ∃ (k : Nat) (s f2 l t : Int), i = .int .i64 k ∧ k ≤ 20 ∧ Below w.heap.size w wr ∧ Box wr B 6000 f 6000 (a + 5) true ∧ Box wr C s f2 l t true ∧ 0 ≤ f2 ∧ f2 ≤ 1000000000000 ∧ t < a + 10 + k ∧ ((k = 0 ∧ s = 6000) ∨ (k = 1 ∧ s = 3000) ∨ (2 ≤ k ∧ s = 2400))

set_option maxRecDepth 100000 in
set_option maxHeartbeats 1000000 in
theorem losses_any (m n a : Int) (w : World) (hm : 0 ≤ m) (hm2 : m ≤ 255) (hn : 0 ≤ n) (hn2 : n ≤ 65535) (ha : 0 ≤ a) (ha2 : a ≤ 65535) :
    Calls Try.prog 3 #[.int .u8 m, .int .u16 n, .int .u16 a] w fun e w' => e = .returned (.bool true) ∧ Below w.heap.size w w' := by
  go_enter Try.func3, Try.ntmps3
  go_wp2_with fail
  refine (awake_any _).mono ?_
  rintro e w1 ⟨rfl, hb1⟩
  go_wp2_with fail
  refine (new_any _).mono ?_
  rintro e w2 ⟨rfl, hb2⟩
  have hB : w.heap.size ≤ w2.heap.size := Nat.le_trans hb1.size hb2.size
  have hb12 : Below w.heap.size w w2 := hb1.trans (hb2.mono hb1.size)
  clear hb1 hb2
  go_wp2_with fail
  go_loopw [15] (fun i wr => SentRel n w w2.heap.size i wr) (fun i wr => (20 - intOf i).toNat)
  case atStart => exact ⟨0, rfl, by omega, hb12.alloc hB _, by simpa using Box.new _ _ _ _ _ _⟩
  case round =>
    obtain ⟨k, rfl, hk, hbw, hbox⟩ := hrel
    have hmul := mul_le_int k n 20 65535 (by omega) hn hn2
    obtain ⟨c0, c1, c2, c3, c4, f0, f1, f2, f3, f4⟩ := hbox.cells
    by_cases hlt : k < 20
    · go_wp2_with fail
      refine (sent_any 12000 ((k : Int) * n) 16777216 0 n false _ (by omega) (by omega) (by omega)).mono ?_
      rintro e w3 ⟨rfl, hb3⟩
      have hbox3 := hbox.below hb3
      clear c0 c1 c2 c3 c4 f0 f1 f2 f3 f4
      obtain ⟨c0, c1, c2, c3, c4, f0, f1, f2, f3, f4⟩ := hbox3.cells
      go_wp2_with fail
      go_roundw
      case rel => exact ⟨k + 1, by go_num, by omega, below_set5 (hbw.trans (hb3.mono hbw.size)) hB _ _ _ _ _, by
        rw [mul_succ_int, show (k : Int) * n + n = (k : Int) * n + min n 16777216 from by omega]; exact hbox3.set⟩
      case measure => simp [intOf]; omega
    · have hk20 : k = 20 := by omega
      subst hk20
      go_wp2_with fail
      refine (lost_first 12000 ((20 : Nat) * n) 16777216 0 n (a + 1000) (a + 1000 + 5) _ (by omega) (by omega) (by omega) (by omega) (by omega)).mono ?_
      rintro e w3 ⟨rfl, hb3⟩
      have hB3 : w.heap.size ≤ w3.heap.size := Nat.le_trans hbw.size hb3.size
      have hbw3 := hbw.trans (hb3.mono hbw.size)
      clear c0 c1 c2 c3 c4 f0 f1 f2 f3 f4 hbox hb3 hbw hmul hk hlt
      go_wp2_with fail
      go_loopw [35] (fun i wr => LostRel n (a + 1000) m w w3.heap.size i wr) (fun i wr => (m % 15 - intOf i).toNat)
      case atStart => exact ⟨0, rfl, by omega, hbw3.alloc hB3 _, by
        rw [show 19 * n - ((0 : Nat) : Int) * n = 20 * n - min (20 * n) n from by rw [show ((0 : Nat) : Int) * n = 0 from Int.zero_mul n]; omega]; exact Box.new _ _ _ _ _ _⟩
      case round =>
        obtain ⟨k, rfl, hk, hbw, hbox⟩ := hrel
        have hmul := mul_le_int k n 14 65535 (by omega) hn hn2
        obtain ⟨c0, c1, c2, c3, c4, f0, f1, f2, f3, f4⟩ := hbox.cells
        have hle : (k : Int) * n ≤ 14 * n := Int.mul_le_mul_of_nonneg_right (by omega) hn
        by_cases hlt : (k : Int) < m % 15
        · go_wp2_with fail
          refine (lost_settled 6000 (19 * n - (k : Int) * n) 6000 (a + 1000 + 5) n (a + 1000 - m) (a + 1000 + 9) _ (by omega) (by omega) (by omega) (by omega)).mono ?_
          rintro e w4 ⟨rfl, hb4⟩
          have hbox4 := hbox.below hb4
          clear c0 c1 c2 c3 c4 f0 f1 f2 f3 f4
          obtain ⟨c0, c1, c2, c3, c4, f0, f1, f2, f3, f4⟩ := hbox4.cells
          go_wp2_with fail
          go_roundw
          case rel => exact ⟨k + 1, by go_num, by omega, below_set5 (hbw.trans (hb4.mono hbw.size)) hB3 _ _ _ _ _, by
            rw [mul_succ_int, show 19 * n - ((k : Int) * n + n) = (19 * n - (k : Int) * n) - min (19 * n - (k : Int) * n) n from by omega]; exact hbox4.set⟩
          case measure => simp [intOf]; omega
        · have hke : (k : Int) = m % 15 := by omega
          have hkm : (k : Int) * n = n * (m % 15) := by rw [hke, Int.mul_comm]
          have hf1 : 0 ≤ 19 * n - (k : Int) * n ∧ 19 * n - (k : Int) * n ≤ 1000000000000 := by omega
          have Hf : RowKit.Hid (19 * n - (k : Int) * n = 20 * n - n * (1 + m % 15)) := Lib.hid (by rw [hkm, Int.mul_add, Int.mul_one]; omega)
          have Hm : RowKit.Hid (0 ≤ n * (1 + m % 15) ∧ n * (1 + m % 15) ≤ 15 * n) := Lib.hid (by rw [Int.mul_add, Int.mul_one]; omega)
          clear hkm hke hmul hle
          generalize 19 * n - (k : Int) * n = f at *
          go_wp2_with fail
          obtain ⟨wo, rfl⟩ : ∃ wo : World, wo = wr := ⟨_, rfl⟩
          have hC : w3.heap.size < wo.heap.size := (Array.getElem?_eq_some_iff.1 hbox).1
          have hBC : w.heap.size ≤ wo.heap.size := hbw.size
          go_loopw [49] (fun i wr => AnewRel n (a + 1000) f w w3.heap.size wo.heap.size i wr) (fun i wr => (20 - intOf i).toNat)
          case atStart => exact ⟨0, 6000, f, 6000, a + 1000 + 5, rfl, by omega, hbw.alloc hBC _, hbox.below ((Below.refl _ _).alloc (Nat.le_refl _) _), Box.new _ _ _ _ _ _, by omega, by omega, by omega, .inl ⟨rfl, rfl⟩⟩
          case round =>
            clear c0 c1 c2 c3 c4 f0 f1 f2 f3 f4 hbox hbw hk hlt
            obtain ⟨k, s, fl, l, t, rfl, hk, hbw, hbox, hbox2, hfl, hfl2, ht, hs⟩ := hrel
            have hs1 : 2400 ≤ s ∧ s ≤ 6000 := by omega
            obtain ⟨hs1, hs2⟩ := hs1
            obtain ⟨c0, c1, c2, c3, c4, f0, f1, f2, f3, f4⟩ := hbox.cells
            obtain ⟨d0, d1, d2, d3, d4, g0, g1, g2, g3, g4⟩ := hbox2.cells
            by_cases hlt : k < 20
            · have Hs := Lib.hid hs
              clear hs
              go_wp2_with fail
              refine (lost_anew s fl l t 0 (a + 1000 + 10 + k) (a + 1000 + 10 + k) _ (by omega) (by omega) (by omega) (by omega) (by omega) (by omega)).mono ?_
              rintro e w4 ⟨rfl, hb4⟩
              have hbox4 := hbox.below hb4
              have hbox5 := hbox2.below hb4
              clear c0 c1 c2 c3 c4 f0 f1 f2 f3 f4 d0 d1 d2 d3 d4 g0 g1 g2 g3 g4 hbox hbox2
              obtain ⟨d0, d1, d2, d3, d4, g0, g1, g2, g3, g4⟩ := hbox5.cells
              have hnew : 2400 ≤ max (s / 2) 2400 := by omega
              go_wp2_with fail
              go_roundw
              case rel =>
                have hs := Hs.out
                exact ⟨k + 1, max (s / 2) 2400, _, max (s / 2) 2400, a + 1000 + 10 + k, by go_num, by omega, below_set5 (hbw.trans (hb4.mono hbw.size)) hBC _ _ _ _ _, hbox4.set_other (by omega), hbox5.set, by omega, by omega, by omega, by omega⟩
              case measure => simp [intOf]; omega
            · have hs20 : s = 2400 := by omega
              subst hs20
              have hm0 := Hm.out
              obtain ⟨hm1, hm3⟩ := hm0
              have e1 : IntKind.u64.wrap (n * (1 + m % 15)) = n * (1 + m % 15) := IntWalk.u64_in _ (by omega)
              have e2 : (f == 20 * n - n * (1 + m % 15)) = true := by rw [Hf.out]; exact beq_self_eq_true _
              clear hs
              go_wp2_with fail
              have hp := persistent_any 6000 f 6000 (a + 1000 + 5) true wr
              unfold wv at hp
              refine hp.mono ?_
              clear hp
              rintro e w4 ⟨rfl, hb4⟩
              have hfd := run_size 2400 f 6000 (a + 1000 + 5) false
              go_wp2_with fail
              go_ret
              exact ⟨rfl, hbw.trans (hb4.mono hbw.size)⟩
end Go.Proofs.Ythfoipodgnfecaa
