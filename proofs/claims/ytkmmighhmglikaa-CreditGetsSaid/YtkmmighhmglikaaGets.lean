/- CreditGets: the limit, what is used, whether one is blocked: as the law reckons them by itself. -/
import Derived.Test.YtkmmighhmglikaaActs
import Derived.Deep.Cut
import Derived.Lib.Hide
namespace Go.Proofs.Ytkmmighhmglikaa
open Go.RowKit
set_option linter.unusedVariables false

/-- k acts are done: the law's numbers are the box's. -/
def GetsRel (w : World) (B len : Nat) (x4 x5 x6 i : Value) (wr : World) : Prop :=
  ∃ (k : Nat) (l u s : Int), i = .int .i64 k ∧ k ≤ len ∧ x4 = .int .u64 l ∧ x5 = .int .u64 u ∧ x6 = .int .u64 s ∧ Below w.heap.size w wr ∧ Bok wr B l u s ∧ 0 ≤ u ∧ u ≤ l ∧ l ≤ 4611686018427387903

set_option maxRecDepth 100000 in
set_option maxHeartbeats 4000000 in
theorem gets_any (aa : Option Addr) (len cap : Nat) (K Nn X : Nat → Int) (R : Nat → Bool) (w : World) (hacts : ActsAre w aa len K Nn X R) :
    Calls Try.prog 5 #[.slice aa len cap] w fun e w' => e = .returned (.bool true) ∧ Below w.heap.size w w' := by
  have hlen := hacts.1
  have Ha := Lib.hid hacts.2
  clear hacts
  go_enter Try.func5, Try.ntmps5
  go_wp2_with fail
  refine (awake_any _).mono ?_
  rintro e w1 ⟨rfl, hb1⟩
  go_wp2_with fail
  have hB := hb1.size
  go_loopw [4, 5, 6, 16] (fun x4 x5 x6 i wr => GetsRel w w1.heap.size len x4 x5 x6 i wr) (fun x4 x5 x6 i wr => (len - intOf i).toNat)
  case atStart => exact ⟨0, 0, 0, 0, rfl, by omega, rfl, rfl, rfl, grow hb1 _, Bok.new _ _ _ _, by omega, by omega, by omega⟩
  case round =>
    obtain ⟨k, l, u, s, rfl, hk, rfl, rfl, rfl, hbw, hbok, h1, h2, h3⟩ := hrel
    by_cases hlt : k < len
    · obtain ⟨b, off, rfl, hb, d0, d1, d2, d3, ⟨y1, y2⟩, ⟨y3, y4⟩, ⟨y5, y6⟩⟩ := Ha.out k hlt
      have d0 : wr.cell? ⟨b, off + k * 4, none⟩ = some (.int .u8 (K k)) := by rw [hbw.cell (by exact hb)]; exact d0
      have d1 : wr.cell? ⟨b, off + k * 4 + 1, none⟩ = some (.int .u16 (Nn k)) := by rw [hbw.cell (by exact hb)]; exact d1
      have d2 : wr.cell? ⟨b, off + k * 4 + 2, none⟩ = some (.int .u64 (X k)) := by rw [hbw.cell (by exact hb)]; exact d2
      have d3 : wr.cell? ⟨b, off + k * 4 + 3, none⟩ = some (.bool (R k)) := by rw [hbw.cell (by exact hb)]; exact d3
      generalize K k = kind at *
      generalize Nn k = small at *
      generalize X k = big at *
      generalize R k = raw at *
      by_cases h80 : k < 80
      · go_wp2_with fail
        have hact : ∀ wx : World, Below (wr.alloc (.cells #[.int .u8 kind, .int .u16 small, .int .u64 big, .bool raw] 31)).heap.size (wr.alloc (.cells #[.int .u8 kind, .int .u16 small, .int .u64 big, .bool raw] 31)) wx → wx.cell? ⟨wr.heap.size, 0, none⟩ = some (.int .u8 kind) := by
          intro wx hbx
          rw [hbx.cell (p := ⟨wr.heap.size, 0, none⟩) (by simp)]
          go_simp
        refine (number_any kind small big raw _ y3 y4 y5 y6).mono ?_
        rintro e w3 ⟨x, rfl, hx1, hx2, hb3⟩
        have a0 := hact w3 hb3
        have hbok3 := (hbok.below (grow (Below.refl _ _) _)).below hb3
        have hbw3 := (grow hbw _).trans (hb3.mono (grow hbw _).size)
        clear hact hb3 hbok hbw d0 d1 d2 d3
        go_upto_region 15 with (fail)
        have hq : kind % 4 = 0 ∨ kind % 4 = 1 ∨ kind % 4 = 2 ∨ kind % 4 = 3 := by omega
        clear a0
        generalize kind % 4 = q at *
        obtain ⟨c0, c1, c2, f0, f1, f2⟩ := hbok3.cells
        rcases hq with rfl | rfl | rfl | rfl
        · go_wp2_with fail
          refine (raise_any l u s x _).mono ?_
          rintro e w4 ⟨rfl, hb4⟩
          have hbok4 := hbok3.below hb4
          have hbw4 := hbw3.trans (hb4.mono hbw3.size)
          clear c0 c1 c2 f0 f1 f2
          obtain ⟨c0, c1, c2, f0, f1, f2⟩ := hbok4.cells
          go_upto_region 19 with (fail)
          have hm : u ≤ max l (min x 4611686018427387903) ∧ max l (min x 4611686018427387903) ≤ 4611686018427387903 := by omega
          obtain ⟨hm1, hm2⟩ := hm
          generalize max l (min x 4611686018427387903) = l1 at *
          refine wp_gen (fun W => Bok W w1.heap.size l1 u s ∧ Below w.heap.size w W) ⟨hbok4.set, below_set3 hbw4 hB _ _ _⟩ ?_
          clear c0 c1 c2 f0 f1 f2 hbok4 hbw4 hbok3 hbw3
          rintro w6 ⟨hbok, hbw⟩
          by_cases hful : u < l1
          · have hne : ((l1 : Int) == u) = false := by simp; omega
            obtain ⟨c0, c1, c2, f0, f1, f2⟩ := hbok.cells
            go_wp2_with fail
            refine (got_room l1 u s _ (by omega) (by omega) (by omega)).mono ?_
            rintro e w7 ⟨rfl, hb7⟩
            have hbok7 := hbok.below hb7
            clear c0 c1 c2 f0 f1 f2
            obtain ⟨c0, c1, c2, f0, f1, f2⟩ := hbok7.cells
            go_wp2_with fail
            refine (blocked_no l1 u s _ (by omega) (by omega) (by omega)).mono ?_
            rintro e w8 ⟨rfl, hb8⟩
            have hbok8 := hbok7.below hb8
            have hbw8 := (hbw.trans (hb7.mono hbw.size)).trans (hb8.mono (hbw.trans (hb7.mono hbw.size)).size)
            clear c0 c1 c2 f0 f1 f2
            go_wp2_with fail
            go_roundw
            case rel => exact ⟨k + 1, l1, u, s, by go_num, by omega, rfl, rfl, rfl, hbw8, hbok8, by omega, by omega, by omega⟩
            case measure => simp [intOf]; omega
          · have hfe : u = l1 := by omega
            rw [hfe] at hbok
            obtain ⟨c0, c1, c2, f0, f1, f2⟩ := hbok.cells
            subst hfe
            go_wp2_with fail
            refine (got_room u u s _ (by omega) (by omega) (by omega)).mono ?_
            rintro e w7 ⟨rfl, hb7⟩
            have hbok7 := hbok.below hb7
            clear c0 c1 c2 f0 f1 f2
            obtain ⟨c0, c1, c2, f0, f1, f2⟩ := hbok7.cells
            go_wp2_with fail
            refine (blocked_full u s _ (by omega) (by omega)).mono ?_
            rintro e w8 ⟨rfl, hb8⟩
            have hbok8 := hbok7.below hb8
            have hbw8 := (hbw.trans (hb7.mono hbw.size)).trans (hb8.mono (hbw.trans (hb7.mono hbw.size)).size)
            clear c0 c1 c2 f0 f1 f2
            go_wp2_with fail
            go_roundw
            case rel => exact ⟨k + 1, u, u, s, by go_num, by omega, rfl, rfl, rfl, hbw8, hbok8, by omega, by omega, by omega⟩
            case measure => simp [intOf]; omega
        iterate 2
          · go_wp2_with fail
            refine (got_use l u s x _ (by omega) (by omega) (by omega) (by omega)).mono ?_
            rintro e w4 ⟨rfl, hb4⟩
            have hbok4 := hbok3.below hb4
            have hbw4 := hbw3.trans (hb4.mono hbw3.size)
            clear c0 c1 c2 f0 f1 f2
            go_upto_region 12 with (fail)
            refine wp_gen (fun W => Bok W w1.heap.size l u s ∧ Below w.heap.size w W ∧ Bok W w4.heap.size l (u + min x (l - u)) s) ⟨hbok4.below (grow (Below.refl _ _) _), grow hbw4 _, Bok.new _ _ _ _⟩ ?_
            rintro w5 ⟨hbok5, hbw5, hbx⟩
            clear hbok4 hbw4 hbok3 hbw3
            obtain ⟨c0, c1, c2, f0, f1, f2⟩ := hbok5.cells
            obtain ⟨g0, g1, g2, -⟩ := hbx.cells
            go_upto_region 19 with (fail)
            have hm : 0 ≤ u + min x (l - u) ∧ u + min x (l - u) ≤ l := by omega
            obtain ⟨hm1, hm2⟩ := hm
            refine wp_gen (fun W => Bok W w1.heap.size l (u + min x (l - u)) s ∧ Below w.heap.size w W) ⟨hbok5.set, below_set3 hbw5 hB _ _ _⟩ ?_
            clear c0 c1 c2 f0 f1 f2 hbok5 hbw5 g0 g1 g2 hbx
            generalize u + min x (l - u) = u1 at *
            rintro w6 ⟨hbok, hbw⟩
            by_cases hful : u1 < l
            · have hne : ((l : Int) == u1) = false := by simp; omega
              obtain ⟨c0, c1, c2, f0, f1, f2⟩ := hbok.cells
              go_wp2_with fail
              refine (got_room l u1 s _ (by omega) (by omega) (by omega)).mono ?_
              rintro e w7 ⟨rfl, hb7⟩
              have hbok7 := hbok.below hb7
              clear c0 c1 c2 f0 f1 f2
              obtain ⟨c0, c1, c2, f0, f1, f2⟩ := hbok7.cells
              go_wp2_with fail
              refine (blocked_no l u1 s _ (by omega) (by omega) (by omega)).mono ?_
              rintro e w8 ⟨rfl, hb8⟩
              have hbok8 := hbok7.below hb8
              have hbw8 := (hbw.trans (hb7.mono hbw.size)).trans (hb8.mono (hbw.trans (hb7.mono hbw.size)).size)
              clear c0 c1 c2 f0 f1 f2
              go_wp2_with fail
              go_roundw
              case rel => exact ⟨k + 1, l, u1, s, by go_num, by omega, rfl, rfl, rfl, hbw8, hbok8, by omega, by omega, by omega⟩
              case measure => simp [intOf]; omega
            · have hfe : u1 = l := by omega
              rw [hfe] at hbok
              obtain ⟨c0, c1, c2, f0, f1, f2⟩ := hbok.cells
              subst hfe
              go_wp2_with fail
              refine (got_room u1 u1 s _ (by omega) (by omega) (by omega)).mono ?_
              rintro e w7 ⟨rfl, hb7⟩
              have hbok7 := hbok.below hb7
              clear c0 c1 c2 f0 f1 f2
              obtain ⟨c0, c1, c2, f0, f1, f2⟩ := hbok7.cells
              go_wp2_with fail
              refine (blocked_full u1 s _ (by omega) (by omega)).mono ?_
              rintro e w8 ⟨rfl, hb8⟩
              have hbok8 := hbok7.below hb8
              have hbw8 := (hbw.trans (hb7.mono hbw.size)).trans (hb8.mono (hbw.trans (hb7.mono hbw.size)).size)
              clear c0 c1 c2 f0 f1 f2
              go_wp2_with fail
              go_roundw
              case rel => exact ⟨k + 1, u1, u1, s, by go_num, by omega, rfl, rfl, rfl, hbw8, hbok8, by omega, by omega, by omega⟩
              case measure => simp [intOf]; omega
        · go_wp2_with fail
          refine (say_any l u s _ (by omega) (by omega)).mono ?_
          rintro e w4 ⟨rfl, hb4⟩
          have hbok4 := hbok3.below hb4
          have hbw4 := hbw3.trans (hb4.mono hbw3.size)
          clear c0 c1 c2 f0 f1 f2
          obtain ⟨c0, c1, c2, f0, f1, f2⟩ := hbok4.cells
          go_upto_region 19 with (fail)
          refine wp_gen (fun W => Bok W w1.heap.size l u (l + 1) ∧ Below w.heap.size w W) ⟨hbok4.set, below_set3 hbw4 hB _ _ _⟩ ?_
          clear c0 c1 c2 f0 f1 f2 hbok4 hbw4 hbok3 hbw3
          generalize l + 1 = s1 at *
          rintro w6 ⟨hbok, hbw⟩
          by_cases hful : u < l
          · have hne : ((l : Int) == u) = false := by simp; omega
            obtain ⟨c0, c1, c2, f0, f1, f2⟩ := hbok.cells
            go_wp2_with fail
            refine (got_room l u s1 _ (by omega) (by omega) (by omega)).mono ?_
            rintro e w7 ⟨rfl, hb7⟩
            have hbok7 := hbok.below hb7
            clear c0 c1 c2 f0 f1 f2
            obtain ⟨c0, c1, c2, f0, f1, f2⟩ := hbok7.cells
            go_wp2_with fail
            refine (blocked_no l u s1 _ (by omega) (by omega) (by omega)).mono ?_
            rintro e w8 ⟨rfl, hb8⟩
            have hbok8 := hbok7.below hb8
            have hbw8 := (hbw.trans (hb7.mono hbw.size)).trans (hb8.mono (hbw.trans (hb7.mono hbw.size)).size)
            clear c0 c1 c2 f0 f1 f2
            go_wp2_with fail
            go_roundw
            case rel => exact ⟨k + 1, l, u, s1, by go_num, by omega, rfl, rfl, rfl, hbw8, hbok8, by omega, by omega, by omega⟩
            case measure => simp [intOf]; omega
          · have hfe : u = l := by omega
            rw [hfe] at hbok
            obtain ⟨c0, c1, c2, f0, f1, f2⟩ := hbok.cells
            subst hfe
            go_wp2_with fail
            refine (got_room u u s1 _ (by omega) (by omega) (by omega)).mono ?_
            rintro e w7 ⟨rfl, hb7⟩
            have hbok7 := hbok.below hb7
            clear c0 c1 c2 f0 f1 f2
            obtain ⟨c0, c1, c2, f0, f1, f2⟩ := hbok7.cells
            go_wp2_with fail
            refine (blocked_full u s1 _ (by omega) (by omega)).mono ?_
            rintro e w8 ⟨rfl, hb8⟩
            have hbok8 := hbok7.below hb8
            have hbw8 := (hbw.trans (hb7.mono hbw.size)).trans (hb8.mono (hbw.trans (hb7.mono hbw.size)).size)
            clear c0 c1 c2 f0 f1 f2
            go_wp2_with fail
            go_roundw
            case rel => exact ⟨k + 1, u, u, s1, by go_num, by omega, rfl, rfl, rfl, hbw8, hbok8, by omega, by omega, by omega⟩
            case measure => simp [intOf]; omega
      · have hge : 80 ≤ k := by omega
        go_wp2_with fail
        go_ret
        exact ⟨rfl, grow hbw _⟩
    · go_wp2_with fail
      go_ret
      exact ⟨rfl, hbw⟩
end Go.Proofs.Ytkmmighhmglikaa
