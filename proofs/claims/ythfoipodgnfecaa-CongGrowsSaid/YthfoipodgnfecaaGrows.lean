/- CongGrows: as long as nothing is lost, and the window is full, each window that comes makes it twice as great. -/
import Derived.Test.YthfoipodgnfecaaCalls
import Derived.Lib.Hide
namespace Go.Proofs.Ythfoipodgnfecaa
open Go.RowKit
set_option linter.unusedVariables false

/-- The bound that doubles with each round. -/
def dbl : Nat → Int
  | 0 => 13199
  | k + 1 => 2 * dbl k
theorem dbl_le (k : Nat) (h : k ≤ 7) : dbl k ≤ 1689472 := by
  rcases (show k = 0 ∨ k = 1 ∨ k = 2 ∨ k = 3 ∨ k = 4 ∨ k = 5 ∨ k = 6 ∨ k = 7 by omega) with rfl | rfl | rfl | rfl | rfl | rfl | rfl | rfl <;> simp [dbl]

theorem ceil_both (a n : Int) (hn : 0 < n) : a ≤ (a + n - 1) / n * n ∧ (a + n - 1) / n * n ≤ a + n - 1 := by
  have h1 := Int.mul_ediv_add_emod (a + n - 1) n
  have h2 := Int.emod_nonneg (a + n - 1) (show n ≠ 0 by omega)
  have h3 := Int.emod_lt_of_pos (a + n - 1) hn
  rw [Int.mul_comm n] at h1
  omega

/-- What is on its way, by the box. -/
def flightOf (w : World) (B : Nat) : Int := match w.cell? ⟨B, 1, none⟩ with
  | some (.int _ f) => f
  | _ => 0
theorem Box.flight {w : World} {B : Nat} {s f l n : Int} {b : Bool} (h : Box w B s f l n b) : flightOf w B = f := by
  unfold flightOf; rw [h.cells.2.1]

def FillRel (n S : Int) (w : World) (B : Nat) (wr : World) : Prop :=
  ∃ F : Int, Below w.heap.size w wr ∧ Box wr B S F 16777216 0 false ∧ 0 ≤ F ∧ F ≤ S + n
def MidRel (n was c : Int) (w : World) (B : Nat) (i : Value) (wr : World) : Prop :=
  ∃ (j : Nat) (S F : Int), i = .int .u64 j ∧ (j : Int) ≤ c ∧ Below w.heap.size w wr ∧ Box wr B S F 16777216 0 false ∧ Hid (S = was + (j : Int) * n) ∧ was ≤ S ∧ S ≤ was + was + n - 1 ∧ S ≤ F ∧ F ≤ S + n
def OuterRel (n m : Int) (w : World) (B : Nat) (i : Value) (wr : World) : Prop :=
  ∃ (k : Nat) (S F : Int), i = .int .i64 k ∧ (k : Int) ≤ m % 8 ∧ Below w.heap.size w wr ∧ Box wr B S F 16777216 0 false ∧ 12000 ≤ S ∧ S + 1199 ≤ dbl k ∧ 0 ≤ F ∧ F ≤ S + n

set_option maxRecDepth 100000 in
set_option maxHeartbeats 2000000 in
theorem grows_any (m p : Int) (w : World) (hm : 0 ≤ m) (hm2 : m ≤ 255) (hp : 0 ≤ p) (hp2 : p ≤ 65535) :
    Calls Try.prog 4 #[.int .u8 m, .int .u16 p] w fun e w' => e = .returned (.bool true) ∧ Below w.heap.size w w' := by
  go_enter Try.func4, Try.ntmps4
  go_wp2_with fail
  refine (awake_any _).mono ?_
  rintro e w1 ⟨rfl, hb1⟩
  go_wp2_with fail
  refine (new_any _).mono ?_
  rintro e w2 ⟨rfl, hb2⟩
  have hB : w.heap.size ≤ w2.heap.size := Nat.le_trans hb1.size hb2.size
  have hb12 : Below w.heap.size w w2 := hb1.trans (hb2.mono hb1.size)
  clear hb1 hb2
  go_wp2_with fail
  have hn1 : 100 ≤ 100 + p % 1100 := by omega
  have hn2 : 100 + p % 1100 ≤ 1199 := by omega
  generalize 100 + p % 1100 = n at *
  go_loopw [19] (fun i wr => OuterRel n m w w2.heap.size i wr) (fun i wr => (m % 8 - intOf i).toNat)
  case atStart => exact ⟨0, 12000, 0, rfl, by omega, hb12.alloc hB _, Box.new _ _ _ _ _ _, by omega, by simp [dbl], by omega, by omega⟩
  case round =>
    obtain ⟨k, S, F0, rfl, hk, hbw, hbox, hS, hS2, hF0, hF1⟩ := hrel
    by_cases hlt : (k : Int) < m % 8
    · have hd := dbl_le k (by omega)
      obtain ⟨c0, c1, c2, c3, c4, f0, f1, f2, f3, f4⟩ := hbox.cells
      go_wp2_with fail
      clear c0 c1 c2 c3 c4 f0 f1 f2 f3 f4
      obtain ⟨wo, rfl⟩ : ∃ wo : World, wo = wr := ⟨_, rfl⟩

      go_loopw [24] (fun q wr => FillRel n (S) w w2.heap.size wr) (fun q wr => ((S) - flightOf wr w2.heap.size).toNat)
      case atStart => exact ⟨F0, hbw, hbox, by omega, by omega⟩
      case round =>
        obtain ⟨F, hbw, hbox, hF0, hF1⟩ := hrel
        obtain ⟨c0, c1, c2, c3, c4, f0, f1, f2, f3, f4⟩ := hbox.cells
        go_wp2_with fail
        refine (room_any (S) F 16777216 0 false _ (by omega) (by omega) (by omega)).mono ?_
        rintro e w3 ⟨rfl, hb3⟩
        have hbox3 := hbox.below hb3
        have hbw3 := hbw.trans (hb3.mono hbw.size)
        have hfl := hbox.flight
        clear c0 c1 c2 c3 c4 f0 f1 f2 f3 f4 hbox hbw
        obtain ⟨c0, c1, c2, c3, c4, f0, f1, f2, f3, f4⟩ := hbox3.cells
        have Hfl := Lib.hid hfl
        clear hfl
        by_cases hlt : F < S
        · have hpos : 0 < (S) - min (S) F := by omega
          go_wp2_with fail
          refine (sent_any (S) F 16777216 0 n false _ (by omega) (by omega) (by omega)).mono ?_
          rintro e w4 ⟨rfl, hb4⟩
          have hbox4 := hbox3.below hb4
          have hbw4 := hbw3.trans (hb4.mono hbw3.size)
          clear c0 c1 c2 c3 c4 f0 f1 f2 f3 f4 hbox3 hbw3
          obtain ⟨c0, c1, c2, c3, c4, f0, f1, f2, f3, f4⟩ := hbox4.cells
          have hmn : min n 16777216 = n := by omega
          rw [hmn]
          go_wp2_with fail
          go_roundw
          case rel => exact ⟨F + n, below_set5 hbw4 hB _ _ _ _ _, hbox4.set, by omega, by omega⟩
          case measure =>
            have hs : flightOf _ w2.heap.size = F + n := (hbox4.set (l' := S) (le' := F + n) (s' := 16777216) (v' := 0) (b' := false)).flight
            rw [hs, Hfl.out]; omega
        · have hzero : (S) - min (S) F = 0 := by omega
          have hge : S ≤ F := by omega
          rw [hzero]
          clear hzero
          go_wp2_with fail
          have hc := ceil_both S n (by omega)
          have hc0 : 0 ≤ (S + n - 1) / n := Int.ediv_nonneg (by omega) (by omega)
          have hc1 : (S + n - 1) / n ≤ S + n - 1 := Int.ediv_le_self _ (by omega)
          generalize (S + n - 1) / n = c at *
          have Hc := Lib.hid hc
          clear hc c0 c1 c2 c3 c4 f0 f1 f2 f3 f4 Hfl
          obtain ⟨wm, rfl⟩ : ∃ wm : World, wm = w3 := ⟨_, rfl⟩
          go_loopw [36] (fun i wr => MidRel n S c w w2.heap.size i wr) (fun i wr => (c - intOf i).toNat)
          case atStart => exact ⟨0, S, F, rfl, by omega, hbw3, hbox3, Lib.hid (by rw [show ((0 : Nat) : Int) * n = 0 from Int.zero_mul n]; omega), by omega, by omega, by omega, by omega⟩
          case round =>
            clear hbox3 hbw3 hb3 wm
            obtain ⟨j, S1, F1, rfl, hj, hbw, hbox, Hs, hs1, hs2, hf1, hf2⟩ := hrel
            obtain ⟨c0, c1, c2, c3, c4, f0, f1, f2, f3, f4⟩ := hbox.cells
            by_cases hjc : (j : Int) < c
            · go_wp2_with fail
              have h := came_grow S1 F1 16777216 0 n (k + 1) wr (by omega) (by omega) (by omega) (by omega) (by omega) (by omega) (by omega)
              rw [show min (min S1 16777216 + min n 16777216) 16777216 = S1 + n from by omega, show F1 - min F1 n = F1 - n from by omega] at h
              refine h.mono ?_
              clear h
              rintro e w3 ⟨rfl, hb3⟩
              have hbox3 := hbox.below hb3
              have hbw3 := hbw.trans (hb3.mono hbw.size)
              clear c0 c1 c2 c3 c4 f0 f1 f2 f3 f4 hbox hbw
              obtain ⟨c0, c1, c2, c3, c4, f0, f1, f2, f3, f4⟩ := hbox3.cells
              have Hs2 : RowKit.Hid (S1 + n = S + ((j + 1 : Nat) : Int) * n ∧ S1 + n ≤ S + S + n - 1) := by
                have h1 := Hs.out
                have h2 := Hc.out
                have h3 : ((j + 1 : Nat) : Int) * n ≤ c * n := Int.mul_le_mul_of_nonneg_right (by omega) (by omega)
                rw [Int.natCast_succ, Int.add_mul, Int.one_mul] at *
                exact ⟨by omega, by omega⟩
              have hs3 := Hs2.out.2
              have hS2p : 12000 ≤ S1 + n := by omega
              have hS2q : S1 + n ≤ 16000000 := by omega
              have hF2p : 0 ≤ F1 - n := by omega
              have hF2q : F1 - n ≤ S1 + n + n := by omega
              have hS2r : S ≤ S1 + n := by omega
              go_wp2_with fail
              generalize S1 + n = S2 at *
              generalize F1 - n = F2 at *
              have hboxm : Box _ w2.heap.size S2 F2 16777216 0 false := hbox3.set
              have hbwm := below_set5 hbw3 hB (.int .u64 S2) (.int .u64 F2) (.int .u64 16777216) (.int .u64 0) (.bool false)
              clear c0 c1 c2 c3 c4 f0 f1 f2 f3 f4
              go_loopw [44] (fun q wr => FillRel n (S2) w w2.heap.size wr) (fun q wr => ((S2) - flightOf wr w2.heap.size).toNat)
              case atStart => exact ⟨F2, hbwm, hboxm, by omega, by omega⟩
              case round =>
                obtain ⟨F, hbw, hbox, hF0, hF1⟩ := hrel
                obtain ⟨c0, c1, c2, c3, c4, f0, f1, f2, f3, f4⟩ := hbox.cells
                go_wp2_with fail
                refine (room_any (S2) F 16777216 0 false _ (by omega) (by omega) (by omega)).mono ?_
                rintro e w3 ⟨rfl, hb3⟩
                have hbox3 := hbox.below hb3
                have hbw3 := hbw.trans (hb3.mono hbw.size)
                have hfl := hbox.flight
                clear c0 c1 c2 c3 c4 f0 f1 f2 f3 f4 hbox hbw
                obtain ⟨c0, c1, c2, c3, c4, f0, f1, f2, f3, f4⟩ := hbox3.cells
                have Hfl := Lib.hid hfl
                clear hfl
                by_cases hlt : F < S2
                · have hpos : 0 < (S2) - min (S2) F := by omega
                  go_wp2_with fail
                  refine (sent_any (S2) F 16777216 0 n false _ (by omega) (by omega) (by omega)).mono ?_
                  rintro e w4 ⟨rfl, hb4⟩
                  have hbox4 := hbox3.below hb4
                  have hbw4 := hbw3.trans (hb4.mono hbw3.size)
                  clear c0 c1 c2 c3 c4 f0 f1 f2 f3 f4 hbox3 hbw3
                  obtain ⟨c0, c1, c2, c3, c4, f0, f1, f2, f3, f4⟩ := hbox4.cells
                  have hmn : min n 16777216 = n := by omega
                  rw [hmn]
                  go_wp2_with fail
                  go_roundw
                  case rel => exact ⟨F + n, below_set5 hbw4 hB _ _ _ _ _, hbox4.set, by omega, by omega⟩
                  case measure =>
                    have hs : flightOf _ w2.heap.size = F + n := (hbox4.set (l' := S2) (le' := F + n) (s' := 16777216) (v' := 0) (b' := false)).flight
                    rw [hs, Hfl.out]; omega
                · have hzero : (S2) - min (S2) F = 0 := by omega
                  have hge : S2 ≤ F := by omega
                  rw [hzero]
                  clear hzero
                  go_wp2_with fail
                  go_roundw
                  case rel => exact ⟨j + 1, S2, F, by go_num, by omega, hbw3, hbox3, Lib.hid Hs2.out.1, by omega, hs3, hge, by omega⟩
                  case measure => simp [intOf]; omega
            · have hje : (j : Int) = c := by omega
              have hfin : S + S ≤ S1 := by
                have h1 := Hs.out
                have h2 := Hc.out
                rw [hje] at h1
                omega
              clear hje
              go_wp2_with fail
              go_roundw
              case rel => exact ⟨k + 1, S1, F1, by go_num, by omega, hbw, hbox, by omega, by rw [show dbl (k + 1) = 2 * dbl k from rfl]; omega, by omega, by omega⟩
              case measure => simp [intOf]; omega
    · go_wp2_with fail
      go_ret
      exact ⟨rfl, hbw⟩
end Go.Proofs.Ythfoipodgnfecaa
