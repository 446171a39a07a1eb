/- RttMeasures: what Measure, Lost and Probe answer is what the law reckons by itself. -/
import Derived.Test.YtommnhomccjkkaaBounds
import Derived.Deep.QuietTactic
import Derived.BigQuiet
namespace Go.Proofs.Ytommnhomccjkkaa
open Go.RowKit
set_option linter.unusedVariables false
attribute [local go_sem ↓] Go.wp_at_zero Go.wp_at_succ

theorem lost_law (l le s v : Int) (b : Bool) (w : World) (hl : 0 ≤ l) (hl2 : l ≤ 1125899906842624) (hs : 0 ≤ s) (hs2 : s ≤ 1125899906842624) :
    Calls Try.prog 9 #[rv l le s v b] w fun e w' => e = .returned (.int .u64 (max (max s l * 9 / 8) 1000)) ∧ Below w.heap.size w w' := by
  rw [Int.mul_comm (max s l) 9]; exact lost_any l le s v b w hl hl2 hs hs2

theorem probe_law (l le s v x : Int) (b : Bool) (w : World) (hv : 0 ≤ v) (hv2 : v ≤ 1125899906842624) (hs : 0 ≤ s) (hs2 : s ≤ 1125899906842624) (hx : 0 ≤ x) (hx2 : x < 18446744073709551616) :
    Calls Try.prog 10 #[rv l le s v b, .int .u64 x] w fun e w' => e = .returned (.int .u64 (s + max (4 * v) 1000 + min x 1125899906842624)) ∧ Below w.heap.size w w' :=
  probe_any l le s v x b w hv hv2 hs hs2 hx hx2

theorem below_drewN {B : Nat} {a w : World} (h : Below B a w) (n : Nat) : Below B a (w.drewN n) := ⟨h.os, h.tape, h.output, h.size, h.block⟩

/-- What holds at the head of each round: k of them are done; the law's four numbers are the box's. -/
def MeasRel (w : World) (B len : Nat) (x6 x7 x8 x9 i : Value) (wr : World) : Prop :=
  ∃ k : Nat, i = .int .i64 k ∧ k ≤ len ∧ Below w.heap.size w wr ∧ ∃ (l le s v : Int) (b : Bool), x6 = .int .u64 l ∧ x7 = .int .u64 le ∧ x8 = .int .u64 s ∧ x9 = .int .u64 v ∧ Box wr B l le s v b ∧
    0 ≤ l ∧ l ≤ 1125899906842624 ∧ 0 ≤ le ∧ le ≤ 1125899906842624 ∧ 0 ≤ s ∧ s ≤ 1125899906842624 ∧ 0 ≤ v ∧ v ≤ 1125899906842624 ∧ ((k = 0 ∧ b = false) ∨ (0 < k ∧ b = true))

set_option maxRecDepth 100000 in
set_option maxHeartbeats 400000 in
theorem meas_none (a0 : Option Addr) (cap : Nat) (q : Int) (w : World) :
    Calls Try.prog 4 #[.slice a0 0 cap, .int .u64 q] w fun e w' => e = .returned (.bool true) ∧ Below w.heap.size w w' := by
  go_enter Try.func4, Try.ntmps4
  go_wp2_with fail
  refine (awake_any _).mono ?_
  rintro e w1 ⟨rfl, hb1⟩
  go_wp2_with fail
  refine (new_any _).mono ?_
  rintro e w2 ⟨rfl, hb2⟩
  have hB : w.heap.size ≤ w2.heap.size := Nat.le_trans hb1.size hb2.size
  have hb12 : Below w.heap.size w w2 := hb1.trans (hb2.mono hb1.size)
  go_wp2_with fail
  go_loopw [41] (fun i wr => i = .int .i64 0 ∧ Below w.heap.size w wr) (fun i wr => 0)
  case atStart => exact ⟨rfl, hb12.alloc hB _⟩
  case round =>
    obtain ⟨rfl, hbw⟩ := hrel
    go_wp2_with fail
    go_ret
    exact ⟨rfl, hbw⟩

set_option maxRecDepth 100000 in
set_option maxHeartbeats 2000000 in
theorem meas_some (b off len cap : Nat) (T W M : Nat → Int) (G : Nat → Bool) (q : Int) (w : World) (hlen : len ≤ 9223372036854775807)
    (hcell : ∀ i, i < len → w.cell? ⟨b, off + i * 4, none⟩ = some (.int .u64 (T i)) ∧ w.cell? ⟨b, off + i * 4 + 1, none⟩ = some (.int .u64 (W i)) ∧ w.cell? ⟨b, off + i * 4 + 2, none⟩ = some (.int .u64 (M i)) ∧ w.cell? ⟨b, off + i * 4 + 3, none⟩ = some (.bool (G i)))
    (hz : ∀ i, i < len → (0 ≤ T i ∧ T i ≤ 18446744073709551615) ∧ (0 ≤ W i ∧ W i ≤ 18446744073709551615) ∧ (0 ≤ M i ∧ M i ≤ 18446744073709551615)) (hb : b < w.heap.size) (hq : 0 ≤ q) (hq2 : q ≤ 18446744073709551615) :
    Calls Try.prog 4 #[.slice (some ⟨b, off, none⟩) len cap, .int .u64 q] w fun e w' => e = .returned (.bool true) ∧ Below w.heap.size w w' := by
  have Hc := Lib.hid hcell
  have Hz := Lib.hid hz
  clear hcell hz
  go_enter Try.func4, Try.ntmps4
  go_wp2_with fail
  refine (awake_any _).mono ?_
  rintro e w1 ⟨rfl, hb1⟩
  go_wp2_with fail
  refine (new_any _).mono ?_
  rintro e w2 ⟨rfl, hb2⟩
  have hB : w.heap.size ≤ w2.heap.size := Nat.le_trans hb1.size hb2.size
  have hb12 : Below w.heap.size w w2 := hb1.trans (hb2.mono hb1.size)
  go_wp2_with fail
  go_loopw [6, 7, 8, 9, 41] (fun x6 x7 x8 x9 i wr => MeasRel w w2.heap.size len x6 x7 x8 x9 i wr)
     (fun x6 x7 x8 x9 i wr => (len - intOf i).toNat)
  case atStart => exact ⟨0, rfl, by omega, hb12.alloc hB _, 0, 0, 333000, 166500, false, rfl, rfl, rfl, rfl, Box.new _ _ _ _ _ _, by omega, by omega, by omega, by omega, by omega, by omega, by omega, by omega, .inl ⟨rfl, rfl⟩⟩
  case round =>
    obtain ⟨k, rfl, hk, hbw, l, le, s, v, g, rfl, rfl, rfl, rfl, hbox, h1, h2, h3, h4, h5, h6, h7, h8, hor⟩ := hrel
    by_cases hlt : k < len
    · obtain ⟨d0, d1, d2, d3⟩ := Hc.out k hlt
      obtain ⟨⟨y1, y2⟩, ⟨y3, y4⟩, ⟨y5, y6⟩⟩ := Hz.out k hlt
      have d0 : wr.cell? ⟨b, off + k * 4, none⟩ = some (.int .u64 (T k)) := by rw [hbw.cell (by exact hb)]; exact d0
      have d1 : wr.cell? ⟨b, off + k * 4 + 1, none⟩ = some (.int .u64 (W k)) := by rw [hbw.cell (by exact hb)]; exact d1
      have d2 : wr.cell? ⟨b, off + k * 4 + 2, none⟩ = some (.int .u64 (M k)) := by rw [hbw.cell (by exact hb)]; exact d2
      have d3 : wr.cell? ⟨b, off + k * 4 + 3, none⟩ = some (.bool (G k)) := by rw [hbw.cell (by exact hb)]; exact d3
      generalize T k = t at *
      generalize W k = wt at *
      generalize M k = m at *
      generalize G k = lg at *
      by_cases h100 : k < 60
      · go_wp2_with fail
        refine wp_gen (fun X => Box X w2.heap.size l le s v g ∧ Below w.heap.size w X ∧ X.cell? ⟨wr.heap.size, 0, none⟩ = some (.int .u64 t) ∧ X.cell? ⟨wr.heap.size, 1, none⟩ = some (.int .u64 wt) ∧ X.cell? ⟨wr.heap.size, 2, none⟩ = some (.int .u64 m) ∧ X.cell? ⟨wr.heap.size, 3, none⟩ = some (.bool lg))
          ⟨hbox.below ((Below.refl _ _).alloc (Nat.le_refl _) _), hbw.alloc hbw.size _, by go_simp, by go_simp, by go_simp, by go_simp⟩ ?_
        clear d0 d1 d2 d3 hbox hbw
        generalize wr.heap.size = N
        clear wr
        rintro wr ⟨hbox, hbw, d0, d1, d2, d3⟩
        obtain ⟨c0, c1, c2, c3, c4, f0, f1, f2, f3, f4⟩ := hbox.cells
        go_quiet (fail)
        cases lg
        case' false =>
          go_wp2_with fail
          have z1 : 0 ≤ t % 1000000 ∧ t % 1000000 ≤ 18446744073709551615 := by omega
          have z2 : 0 ≤ wt % 100000 ∧ wt % 100000 ≤ 18446744073709551615 := by omega
          have z3 : 0 ≤ m % 50000 ∧ m % 50000 ≤ 18446744073709551615 := by omega
          clear d0 d1 d2 d3 y1 y2 y3 y4 y5 y6
          generalize t % 1000000 = t at *
          generalize wt % 100000 = wt at *
          generalize m % 50000 = m at *
          obtain ⟨y1, y2⟩ := z1
          obtain ⟨y3, y4⟩ := z2
          obtain ⟨y5, y6⟩ := z3
        case' true => go_wp2_with fail
        all_goals
          rcases hor with ⟨rfl, rfl⟩ | ⟨hk1, rfl⟩
          · skip
            have h := measure_first l le s v t wt m (wr.drewN nq) (by omega) (by omega)
            unfold Mx  at h
            refine h.mono ?_
            clear h
            rintro e w3 ⟨rfl, hb3⟩
            have hboxd : Box (wr.drewN nq) w2.heap.size l le s v false := hbox
            have hbox3 := hboxd.below hb3
            have hbw3 : Below w.heap.size w w3 := (below_drewN hbw nq).trans (hb3.mono hbw.size)
            clear c0 c1 c2 c3 c4 f0 f1 f2 f3 f4 hb3 hbox hboxd hbw
            obtain ⟨c0, c1, c2, c3, c4, f0, f1, f2, f3, f4⟩ := hbox3.cells
            
            go_wp2_with fail
            have hbox4 : Box _ w2.heap.size (min t 1125899906842624) (min t 1125899906842624) (min t 1125899906842624) (min t 1125899906842624 / 2) true := hbox3.set
            have hbw4 := below_set5 hbw3 hB (.int .u64 (min t 1125899906842624)) (.int .u64 (min t 1125899906842624)) (.int .u64 (min t 1125899906842624)) (.int .u64 (min t 1125899906842624 / 2)) (.bool true)
            refine (lost_law (min t 1125899906842624) (min t 1125899906842624) (min t 1125899906842624) (min t 1125899906842624 / 2) true _ (by omega) (by omega) (by omega) (by omega)).mono ?_
            rintro e w4 ⟨rfl, hb4⟩
            have hbox5 := hbox4.below hb4
            have hbw5 := hbw4.trans (hb4.mono hbw4.size)
            clear c0 c1 c2 c3 c4 f0 f1 f2 f3 f4 hb4 hbw4 hbox4 hbox3
            obtain ⟨c0, c1, c2, c3, c4, f0, f1, f2, f3, f4⟩ := hbox5.cells
            go_wp2_with fail
            refine (probe_law (min t 1125899906842624) (min t 1125899906842624) (min t 1125899906842624) (min t 1125899906842624 / 2) q true _ (by omega) (by omega) (by omega) (by omega) (by omega) (by omega)).mono ?_
            rintro e w5 ⟨rfl, hb5⟩
            have hbox6 := hbox5.below hb5
            have hbw6 := hbw5.trans (hb5.mono hbw5.size)
            go_wp2_with fail
            go_roundw
            case rel => exact ⟨1, rfl, by omega, hbw6, _, _, _, _, true, rfl, rfl, rfl, rfl, hbox6, by omega, by omega, by omega, by omega, by omega, by omega, by omega, by omega, .inr ⟨by omega, rfl⟩⟩
            case measure => simp [intOf]; omega
          · have hk0 : ((k : Int) == 0) = false := by simp; omega
            by_cases hc : min wt m ≤ min t 1125899906842624
            · by_cases hc2 : min le (min t 1125899906842624) ≤ min t 1125899906842624 - min wt m
              · skip
                have h := measure_yes l le s v t wt m (wr.drewN nq) (by omega) (by omega) (by omega) (by omega) (by omega) (by omega) (by omega) (by omega) (by omega) (by omega) (by omega) (by omega) 
                unfold Mx nSm nVar at h
                refine h.mono ?_
                clear h
                rintro e w3 ⟨rfl, hb3⟩
                have hboxd : Box (wr.drewN nq) w2.heap.size l le s v true := hbox
                have hbox3 := hboxd.below hb3
                have hbw3 : Below w.heap.size w w3 := (below_drewN hbw nq).trans (hb3.mono hbw.size)
                clear c0 c1 c2 c3 c4 f0 f1 f2 f3 f4 hb3 hbox hboxd hbw
                obtain ⟨c0, c1, c2, c3, c4, f0, f1, f2, f3, f4⟩ := hbox3.cells
                
                go_wp2_with fail
                have hbox4 : Box _ w2.heap.size (min t 1125899906842624) (min le (min t 1125899906842624)) ((7 * s + (min t 1125899906842624 - min wt m)) / 8) ((3 * v + (max s (min t 1125899906842624 - min wt m) - min s (min t 1125899906842624 - min wt m))) / 4) true := hbox3.set
                have hbw4 := below_set5 hbw3 hB (.int .u64 (min t 1125899906842624)) (.int .u64 (min le (min t 1125899906842624))) (.int .u64 ((7 * s + (min t 1125899906842624 - min wt m)) / 8)) (.int .u64 ((3 * v + (max s (min t 1125899906842624 - min wt m) - min s (min t 1125899906842624 - min wt m))) / 4)) (.bool true)
                refine (lost_law (min t 1125899906842624) (min le (min t 1125899906842624)) ((7 * s + (min t 1125899906842624 - min wt m)) / 8) ((3 * v + (max s (min t 1125899906842624 - min wt m) - min s (min t 1125899906842624 - min wt m))) / 4) true _ (by omega) (by omega) (by omega) (by omega)).mono ?_
                rintro e w4 ⟨rfl, hb4⟩
                have hbox5 := hbox4.below hb4
                have hbw5 := hbw4.trans (hb4.mono hbw4.size)
                clear c0 c1 c2 c3 c4 f0 f1 f2 f3 f4 hb4 hbw4 hbox4 hbox3
                obtain ⟨c0, c1, c2, c3, c4, f0, f1, f2, f3, f4⟩ := hbox5.cells
                go_wp2_with fail
                refine (probe_law (min t 1125899906842624) (min le (min t 1125899906842624)) ((7 * s + (min t 1125899906842624 - min wt m)) / 8) ((3 * v + (max s (min t 1125899906842624 - min wt m) - min s (min t 1125899906842624 - min wt m))) / 4) q true _ (by omega) (by omega) (by omega) (by omega) (by omega) (by omega)).mono ?_
                rintro e w5 ⟨rfl, hb5⟩
                have hbox6 := hbox5.below hb5
                have hbw6 := hbw5.trans (hb5.mono hbw5.size)
                go_wp2_with fail
                go_roundw
                case rel => exact ⟨k + 1, by go_num, by omega, hbw6, _, _, _, _, true, rfl, rfl, rfl, rfl, hbox6, by omega, by omega, by omega, by omega, by omega, by omega, by omega, by omega, .inr ⟨by omega, rfl⟩⟩
                case measure => simp [intOf]; omega
              · have hc3 : min t 1125899906842624 - min wt m < min le (min t 1125899906842624) := by omega
                clear hc2
                have h := measure_no2 l le s v t wt m (wr.drewN nq) (by omega) (by omega) (by omega) (by omega) (by omega) (by omega) (by omega) (by omega) (by omega) (by omega) (by omega) (by omega) 
                unfold Mx nSm nVar at h
                refine h.mono ?_
                clear h
                rintro e w3 ⟨rfl, hb3⟩
                have hboxd : Box (wr.drewN nq) w2.heap.size l le s v true := hbox
                have hbox3 := hboxd.below hb3
                have hbw3 : Below w.heap.size w w3 := (below_drewN hbw nq).trans (hb3.mono hbw.size)
                clear c0 c1 c2 c3 c4 f0 f1 f2 f3 f4 hb3 hbox hboxd hbw
                obtain ⟨c0, c1, c2, c3, c4, f0, f1, f2, f3, f4⟩ := hbox3.cells
                
                go_wp2_with fail
                have hbox4 : Box _ w2.heap.size (min t 1125899906842624) (min le (min t 1125899906842624)) ((7 * s + (min t 1125899906842624)) / 8) ((3 * v + (max s (min t 1125899906842624) - min s (min t 1125899906842624))) / 4) true := hbox3.set
                have hbw4 := below_set5 hbw3 hB (.int .u64 (min t 1125899906842624)) (.int .u64 (min le (min t 1125899906842624))) (.int .u64 ((7 * s + (min t 1125899906842624)) / 8)) (.int .u64 ((3 * v + (max s (min t 1125899906842624) - min s (min t 1125899906842624))) / 4)) (.bool true)
                refine (lost_law (min t 1125899906842624) (min le (min t 1125899906842624)) ((7 * s + (min t 1125899906842624)) / 8) ((3 * v + (max s (min t 1125899906842624) - min s (min t 1125899906842624))) / 4) true _ (by omega) (by omega) (by omega) (by omega)).mono ?_
                rintro e w4 ⟨rfl, hb4⟩
                have hbox5 := hbox4.below hb4
                have hbw5 := hbw4.trans (hb4.mono hbw4.size)
                clear c0 c1 c2 c3 c4 f0 f1 f2 f3 f4 hb4 hbw4 hbox4 hbox3
                obtain ⟨c0, c1, c2, c3, c4, f0, f1, f2, f3, f4⟩ := hbox5.cells
                go_wp2_with fail
                refine (probe_law (min t 1125899906842624) (min le (min t 1125899906842624)) ((7 * s + (min t 1125899906842624)) / 8) ((3 * v + (max s (min t 1125899906842624) - min s (min t 1125899906842624))) / 4) q true _ (by omega) (by omega) (by omega) (by omega) (by omega) (by omega)).mono ?_
                rintro e w5 ⟨rfl, hb5⟩
                have hbox6 := hbox5.below hb5
                have hbw6 := hbw5.trans (hb5.mono hbw5.size)
                go_wp2_with fail
                go_roundw
                case rel => exact ⟨k + 1, by go_num, by omega, hbw6, _, _, _, _, true, rfl, rfl, rfl, rfl, hbox6, by omega, by omega, by omega, by omega, by omega, by omega, by omega, by omega, .inr ⟨by omega, rfl⟩⟩
                case measure => simp [intOf]; omega
            · have hc3 : min t 1125899906842624 < min wt m := by omega
              clear hc
              have h := measure_no1 l le s v t wt m (wr.drewN nq) (by omega) (by omega) (by omega) (by omega) (by omega) (by omega) (by omega) (by omega) (by omega) (by omega) (by omega) 
              unfold Mx nSm nVar at h
              refine h.mono ?_
              clear h
              rintro e w3 ⟨rfl, hb3⟩
              have hboxd : Box (wr.drewN nq) w2.heap.size l le s v true := hbox
              have hbox3 := hboxd.below hb3
              have hbw3 : Below w.heap.size w w3 := (below_drewN hbw nq).trans (hb3.mono hbw.size)
              clear c0 c1 c2 c3 c4 f0 f1 f2 f3 f4 hb3 hbox hboxd hbw
              obtain ⟨c0, c1, c2, c3, c4, f0, f1, f2, f3, f4⟩ := hbox3.cells
              
              go_wp2_with fail
              have hbox4 : Box _ w2.heap.size (min t 1125899906842624) (min le (min t 1125899906842624)) ((7 * s + (min t 1125899906842624)) / 8) ((3 * v + (max s (min t 1125899906842624) - min s (min t 1125899906842624))) / 4) true := hbox3.set
              have hbw4 := below_set5 hbw3 hB (.int .u64 (min t 1125899906842624)) (.int .u64 (min le (min t 1125899906842624))) (.int .u64 ((7 * s + (min t 1125899906842624)) / 8)) (.int .u64 ((3 * v + (max s (min t 1125899906842624) - min s (min t 1125899906842624))) / 4)) (.bool true)
              refine (lost_law (min t 1125899906842624) (min le (min t 1125899906842624)) ((7 * s + (min t 1125899906842624)) / 8) ((3 * v + (max s (min t 1125899906842624) - min s (min t 1125899906842624))) / 4) true _ (by omega) (by omega) (by omega) (by omega)).mono ?_
              rintro e w4 ⟨rfl, hb4⟩
              have hbox5 := hbox4.below hb4
              have hbw5 := hbw4.trans (hb4.mono hbw4.size)
              clear c0 c1 c2 c3 c4 f0 f1 f2 f3 f4 hb4 hbw4 hbox4 hbox3
              obtain ⟨c0, c1, c2, c3, c4, f0, f1, f2, f3, f4⟩ := hbox5.cells
              go_wp2_with fail
              refine (probe_law (min t 1125899906842624) (min le (min t 1125899906842624)) ((7 * s + (min t 1125899906842624)) / 8) ((3 * v + (max s (min t 1125899906842624) - min s (min t 1125899906842624))) / 4) q true _ (by omega) (by omega) (by omega) (by omega) (by omega) (by omega)).mono ?_
              rintro e w5 ⟨rfl, hb5⟩
              have hbox6 := hbox5.below hb5
              have hbw6 := hbw5.trans (hb5.mono hbw5.size)
              go_wp2_with fail
              go_roundw
              case rel => exact ⟨k + 1, by go_num, by omega, hbw6, _, _, _, _, true, rfl, rfl, rfl, rfl, hbox6, by omega, by omega, by omega, by omega, by omega, by omega, by omega, by omega, .inr ⟨by omega, rfl⟩⟩
              case measure => simp [intOf]; omega
      · have hge : 60 ≤ k := by omega
        go_wp2_with fail
        go_ret
        exact ⟨rfl, hbw.alloc hbw.size _⟩
    · go_wp2_with fail
      go_ret
      exact ⟨rfl, hbw⟩
end Go.Proofs.Ytommnhomccjkkaa
