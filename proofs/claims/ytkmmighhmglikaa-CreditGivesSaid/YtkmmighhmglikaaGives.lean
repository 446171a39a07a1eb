/- CreditGives: the limit, what is used, what was told, whether it is worth telling: as the law reckons them by itself. -/
import Derived.Test.YtkmmighhmglikaaActs
import Derived.Deep.Cut
import Derived.Lib.Hide
namespace Go.Proofs.Ytkmmighhmglikaa
open Go.RowKit
set_option linter.unusedVariables false

/-- What lies in memory in the midst of a round: the two numbers in block N, what is given in block B. -/
def Inv (w wr : World) (N : Nat) (a0 a1 : Int) (B : Nat) (l u t n d : Int) : Prop :=
  Below w.heap.size w wr ∧ Box wr B l u t n d ∧ wr.heap[N]? = some (.cells #[.int .u64 a0, .int .u64 a1] 22 (0, 0)) ∧ N < B ∧ w.heap.size ≤ N
theorem Inv.below {w wr w' : World} {N B : Nat} {a0 a1 l u t n d : Int} (h : Inv w wr N a0 a1 B l u t n d) (hb : Below wr.heap.size wr w') : Inv w w' N a0 a1 B l u t n d := by
  obtain ⟨h1, h2, h3, h4, h5⟩ := h
  exact ⟨h1.trans (hb.mono h1.size), h2.below hb, by rw [hb.block N (Array.getElem?_eq_some_iff.1 h3).1]; exact h3, h4, h5⟩
theorem Inv.set {w wr : World} {N B : Nat} {a0 a1 l u t n d l' u' t' n' d' : Int} (h : Inv w wr N a0 a1 B l u t n d) :
    Inv w (((((wr.setCell ⟨B, 0, none⟩ (.int .u64 l')).setCell ⟨B, 1, none⟩ (.int .u64 u')).setCell ⟨B, 2, none⟩ (.int .u64 t')).setCell ⟨B, 3, none⟩ (.int .u64 n')).setCell ⟨B, 4, none⟩ (.int .u64 d')) N a0 a1 B l' u' t' n' d' := by
  obtain ⟨h1, h2, h3, h4, h5⟩ := h
  have hne : N ≠ B := by omega
  refine ⟨below_set5 h1 (by omega) _ _ _ _ _, h2.set, ?_, h4, h5⟩
  rw [Below.heap_setCell _ _ _ _ hne, Below.heap_setCell _ _ _ _ hne, Below.heap_setCell _ _ _ _ hne, Below.heap_setCell _ _ _ _ hne, Below.heap_setCell _ _ _ _ hne]
  exact h3
theorem Inv.alloc {w wr : World} {N B : Nat} {a0 a1 l u t n d : Int} (h : Inv w wr N a0 a1 B l u t n d) (o : Obj) : Inv w (wr.alloc o) N a0 a1 B l u t n d := h.below (grow (Below.refl _ _) o)
theorem Inv.cells {w wr : World} {N B : Nat} {a0 a1 l u t n d : Int} (h : Inv w wr N a0 a1 B l u t n d) :
    wr.cell? ⟨B, 0, none⟩ = some (.int .u64 l) ∧ wr.cell? ⟨B, 1, none⟩ = some (.int .u64 u) ∧ wr.cell? ⟨B, 2, none⟩ = some (.int .u64 t) ∧ wr.cell? ⟨B, 3, none⟩ = some (.int .u64 n) ∧ wr.cell? ⟨B, 4, none⟩ = some (.int .u64 d) ∧
    wr.frozen? ⟨B, 0, none⟩ = false ∧ wr.frozen? ⟨B, 1, none⟩ = false ∧ wr.frozen? ⟨B, 2, none⟩ = false ∧ wr.frozen? ⟨B, 3, none⟩ = false ∧ wr.frozen? ⟨B, 4, none⟩ = false := h.2.1.cells
theorem Inv.pair {w wr : World} {N B : Nat} {a0 a1 l u t n d : Int} (h : Inv w wr N a0 a1 B l u t n d) : Below w.heap.size w wr ∧ wr.heap[N]? = some (.cells #[.int .u64 a0, .int .u64 a1] 22 (0, 0)) := ⟨h.1, h.2.2.1⟩

/-- j of the two numbers are done. -/
def OuterRel (w : World) (N : Nat) (a0 a1 : Int) (i : Value) (wr : World) : Prop :=
  ∃ j : Nat, i = .int .i64 j ∧ j ≤ 2 ∧ Below w.heap.size w wr ∧ wr.heap[N]? = some (.cells #[.int .u64 a0, .int .u64 a1] 22 (0, 0))
/-- k acts are done: the law's numbers are the box's. -/
def InnerRel (w : World) (N : Nat) (a0 a1 : Int) (B len : Nat) (n : Int) (x8 x9 x10 x11 i : Value) (wr : World) : Prop :=
  ∃ (k : Nat) (l u t d : Int), i = .int .i64 k ∧ k ≤ len ∧ x8 = .int .u64 l ∧ x9 = .int .u64 u ∧ x10 = .int .u64 t ∧ x11 = .int .u64 d ∧ Inv w wr N a0 a1 B l u t n d ∧
    0 ≤ t ∧ t ≤ u ∧ u ≤ l ∧ l ≤ 4611686018427387903 ∧ 0 ≤ d ∧ d ≤ l

set_option maxRecDepth 100000 in
set_option maxHeartbeats 4000000 in
theorem gives_any (ahead : Int) (aa : Option Addr) (len cap : Nat) (K Nn X : Nat → Int) (R : Nat → Bool) (w : World) (ha : 0 ≤ ahead) (ha2 : ahead ≤ 18446744073709551615) (hacts : ActsAre w aa len K Nn X R) :
    Calls Try.prog 3 #[.int .u64 ahead, .slice aa len cap] w fun e w' => e = .returned (.bool true) ∧ Below w.heap.size w w' := by
  have hlen := hacts.1
  have Ha := Lib.hid hacts.2
  clear hacts
  go_enter Try.func3, Try.ntmps3
  go_wp2_with fail
  refine (awake_any _).mono ?_
  rintro e w1 ⟨rfl, hb1⟩
  go_wp2_with fail
  go_loopw [24] (fun i wr => OuterRel w w1.heap.size ahead (ahead % 500) i wr) (fun i wr => (2 - intOf i).toNat)
  case atStart => exact ⟨0, rfl, by omega, grow hb1 _, by show (w1.heap.push _)[w1.heap.size]? = _; simp⟩
  case round =>
    obtain ⟨j, rfl, hj, hbw, hpair⟩ := hrel
    have hNlt : w1.heap.size < wr.heap.size := (Array.getElem?_eq_some_iff.1 hpair).1
    have hwN := hb1.size
    by_cases hj2 : j < 2
    · have hv : ∃ v : Int, 0 ≤ v ∧ v ≤ 18446744073709551615 ∧ wr.cell? ⟨w1.heap.size, j, none⟩ = some (.int .u64 v) := by
        rcases (show j = 0 ∨ j = 1 by omega) with rfl | rfl
        · exact ⟨ahead, ha, ha2, by simp [World.cell?, hpair]⟩
        · exact ⟨ahead % 500, by omega, by omega, by simp [World.cell?, hpair]⟩
      obtain ⟨v, hv1, hv2, hvc⟩ := hv
      go_wp2_with fail
      refine (new_any v _ hv1).mono ?_
      rintro e w2 ⟨rfl, hb2⟩
      have hpair2 : w2.heap[w1.heap.size]? = some (.cells #[.int .u64 ahead, .int .u64 (ahead % 500)] 22 (0, 0)) := by rw [hb2.block _ hNlt]; exact hpair
      have hbw2 := hbw.trans (hb2.mono hbw.size)
      have hNlt2 : w1.heap.size < w2.heap.size := (Array.getElem?_eq_some_iff.1 hpair2).1
      clear hvc
      go_wp2_with fail
      have hn1 : 0 ≤ min v 4611686018427387903 ∧ min v 4611686018427387903 ≤ 4611686018427387903 := by omega
      obtain ⟨hn1, hn2⟩ := hn1
      generalize min v 4611686018427387903 = n at *
      have hinv0 : Inv w (w2.alloc (.cells #[.int .u64 n, .int .u64 0, .int .u64 0, .int .u64 n, .int .u64 n] 27)) w1.heap.size ahead (ahead % 500) w2.heap.size n 0 0 n n :=
        ⟨grow hbw2 _, Box.new _ _ _ _ _ _, by rw [Below.heap_alloc _ _ _ hNlt2]; exact hpair2, hNlt2, hb1.size⟩
      clear hpair2 hbw2 hpair hbw hb2
      obtain ⟨wo, rfl⟩ : ∃ wo : World, wo = wr := ⟨_, rfl⟩
      go_loopw [8, 9, 10, 11, 36] (fun x8 x9 x10 x11 i wr => InnerRel w w1.heap.size ahead (ahead % 500) w2.heap.size len n x8 x9 x10 x11 i wr) (fun x8 x9 x10 x11 i wr => (len - intOf i).toNat)
      case atStart => exact ⟨0, n, 0, 0, n, rfl, by omega, rfl, rfl, rfl, rfl, hinv0, by omega, by omega, by omega, by omega, by omega, by omega⟩
      case round =>
        clear hinv0
        obtain ⟨k, l, u, t, d, rfl, hk, rfl, rfl, rfl, rfl, hinv, h1, h2, h3, h4, h5, h6⟩ := hrel
        by_cases hlt : k < len
        · obtain ⟨b, off, rfl, hb, d0, d1, d2, d3, ⟨y1, y2⟩, ⟨y3, y4⟩, ⟨y5, y6⟩⟩ := Ha.out k hlt
          have d0 : wr.cell? ⟨b, off + k * 4, none⟩ = some (.int .u8 (K k)) := by rw [hinv.1.cell (by exact hb)]; exact d0
          have d1 : wr.cell? ⟨b, off + k * 4 + 1, none⟩ = some (.int .u16 (Nn k)) := by rw [hinv.1.cell (by exact hb)]; exact d1
          have d2 : wr.cell? ⟨b, off + k * 4 + 2, none⟩ = some (.int .u64 (X k)) := by rw [hinv.1.cell (by exact hb)]; exact d2
          have d3 : wr.cell? ⟨b, off + k * 4 + 3, none⟩ = some (.bool (R k)) := by rw [hinv.1.cell (by exact hb)]; exact d3
          generalize K k = kind at *
          generalize Nn k = small at *
          generalize X k = big at *
          generalize R k = raw at *
          by_cases h80 : k < 80
          · go_wp2_with fail
            have hact : ∀ wx : World, Below (wr.alloc (.cells #[.int .u8 kind, .int .u16 small, .int .u64 big, .bool raw] 31)).heap.size (wr.alloc (.cells #[.int .u8 kind, .int .u16 small, .int .u64 big, .bool raw] 31)) wx → wx.cell? ⟨wr.heap.size, 0, none⟩ = some (.int .u8 kind) := by
              intro wx hbx
              rw [hbx.cell (p := ⟨wr.heap.size, 0, none⟩) (by simp)]
              go_simp
            refine (number_any kind small big raw _ y3 y4 y5 y6).mono ?_
            rintro e w3 ⟨x, rfl, hx1, hx2, hb3⟩
            have a0 := hact w3 hb3
            have hinv3 := (hinv.alloc _).below hb3
            clear hact hb3 hinv d0 d1 d2 d3
            go_upto_region 17 with (fail)
            have hq1 : 0 ≤ kind % 7 ∧ kind % 7 < 7 := by omega
            clear a0
            generalize kind % 7 = q at *
            have hq : q = 0 ∨ q = 1 ∨ q = 2 ∨ q = 3 ∨ q = 4 ∨ q = 5 ∨ q = 6 := by omega
            clear hq1
            obtain ⟨c0, c1, c2, c3, c4, f0, f1, f2, f3, f4⟩ := hinv3.cells
            rcases hq with rfl | rfl | rfl | rfl | rfl | rfl | rfl
            iterate 3
              · by_cases hxu : l - u < x
                · go_wp2_with fail
                  refine (use_no l u t n d x _ (by omega) (by omega) (by omega) (by omega)).mono ?_
                  rintro e w4 ⟨rfl, hb4⟩
                  have hinv4 := hinv3.below hb4
                  clear c0 c1 c2 c3 c4 f0 f1 f2 f3 f4
                  go_upto_region 21 with (fail)
                  refine wp_gen (fun W => Inv w W w1.heap.size ahead (ahead % 500) w2.heap.size l u t n d ∧ Box W w4.heap.size l (u) t n d) ⟨hinv4.alloc _, Box.new _ _ _ _ _ _⟩ ?_
                  clear hinv4
                  rintro w5 ⟨hinv5, hbx⟩
                  obtain ⟨c0, c1, c2, c3, c4, f0, f1, f2, f3, f4⟩ := hinv5.cells
                  obtain ⟨g0, g1, g2, g3, g4, -⟩ := hbx.cells
                  go_upto_region 34 with (fail)
                  refine wp_gen (fun W => Inv w W w1.heap.size ahead (ahead % 500) w2.heap.size (l) (u) (t) n (d)) hinv5 ?_
                  clear c0 c1 c2 c3 c4 f0 f1 f2 f3 f4 hinv3 g0 g1 g2 g3 g4 hbx hinv5
                  rintro w6 hinv
                  obtain ⟨c0, c1, c2, c3, c4, f0, f1, f2, f3, f4⟩ := hinv.cells
                  go_wp2_with fail
                  refine (last_any (l) (u) (t) n (d) _).mono ?_
                  rintro e w7 ⟨rfl, hb7⟩
                  have hinv7 := hinv.below hb7
                  clear c0 c1 c2 c3 c4 f0 f1 f2 f3 f4
                  obtain ⟨c0, c1, c2, c3, c4, f0, f1, f2, f3, f4⟩ := hinv7.cells
                  go_wp2_with fail
                  refine (wants_any (l) (u) (t) n (d) _ (by omega) (by omega) (by omega) (by omega) (by omega)).mono ?_
                  rintro e w8 ⟨rfl, hb8⟩
                  have hinv8 := hinv7.below hb8
                  clear c0 c1 c2 c3 c4 f0 f1 f2 f3 f4
                  go_wp2_with fail
                  go_roundw
                  case rel => exact ⟨k + 1, l, u, t, d, by go_num, by omega, rfl, rfl, rfl, rfl, hinv8, by omega, by omega, by omega, by omega, by omega, by omega⟩
                  case measure => simp [intOf]; omega
                · have hxu2 : x ≤ l - u := by omega
                  go_wp2_with fail
                  refine (use_yes l u t n d x _ (by omega) (by omega) (by omega) (by omega) (by omega)).mono ?_
                  rintro e w4 ⟨rfl, hb4⟩
                  have hinv4 := hinv3.below hb4
                  clear c0 c1 c2 c3 c4 f0 f1 f2 f3 f4
                  go_upto_region 21 with (fail)
                  refine wp_gen (fun W => Inv w W w1.heap.size ahead (ahead % 500) w2.heap.size l u t n d ∧ Box W w4.heap.size l (u + x) t n d) ⟨hinv4.alloc _, Box.new _ _ _ _ _ _⟩ ?_
                  clear hinv4
                  rintro w5 ⟨hinv5, hbx⟩
                  obtain ⟨c0, c1, c2, c3, c4, f0, f1, f2, f3, f4⟩ := hinv5.cells
                  obtain ⟨g0, g1, g2, g3, g4, -⟩ := hbx.cells
                  go_upto_region 34 with (fail)
                  refine wp_gen (fun W => Inv w W w1.heap.size ahead (ahead % 500) w2.heap.size (l) (u + x) (t) n (d)) hinv5.set ?_
                  clear c0 c1 c2 c3 c4 f0 f1 f2 f3 f4 hinv3 g0 g1 g2 g3 g4 hbx hinv5
                  rintro w6 hinv
                  obtain ⟨c0, c1, c2, c3, c4, f0, f1, f2, f3, f4⟩ := hinv.cells
                  go_wp2_with fail
                  refine (last_any (l) (u + x) (t) n (d) _).mono ?_
                  rintro e w7 ⟨rfl, hb7⟩
                  have hinv7 := hinv.below hb7
                  clear c0 c1 c2 c3 c4 f0 f1 f2 f3 f4
                  obtain ⟨c0, c1, c2, c3, c4, f0, f1, f2, f3, f4⟩ := hinv7.cells
                  go_wp2_with fail
                  refine (wants_any (l) (u + x) (t) n (d) _ (by omega) (by omega) (by omega) (by omega) (by omega)).mono ?_
                  rintro e w8 ⟨rfl, hb8⟩
                  have hinv8 := hinv7.below hb8
                  clear c0 c1 c2 c3 c4 f0 f1 f2 f3 f4
                  go_wp2_with fail
                  go_roundw
                  case rel => exact ⟨k + 1, l, u + x, t, d, by go_num, by omega, rfl, rfl, rfl, rfl, hinv8, by omega, by omega, by omega, by omega, by omega, by omega⟩
                  case measure => simp [intOf]; omega
            iterate 2
              · go_wp2_with fail
                refine (take_any l u t n d x _ (by omega) (by omega) (by omega) (by omega) (by omega) (by omega) (by omega) (by omega)).mono ?_
                rintro e w4 ⟨rfl, hb4⟩
                have hinv4 := hinv3.below hb4
                clear c0 c1 c2 c3 c4 f0 f1 f2 f3 f4
                obtain ⟨c0, c1, c2, c3, c4, f0, f1, f2, f3, f4⟩ := hinv4.cells
                go_upto_region 34 with (fail)
                refine wp_gen (fun W => Inv w W w1.heap.size ahead (ahead % 500) w2.heap.size (max l (min (t + min x (u - t) + n) 4611686018427387903)) (u) (t + min x (u - t)) n (d)) (hinv4.set) ?_
                clear c0 c1 c2 c3 c4 f0 f1 f2 f3 f4 hinv3
                rintro w6 hinv
                obtain ⟨c0, c1, c2, c3, c4, f0, f1, f2, f3, f4⟩ := hinv.cells
                go_wp2_with fail
                refine (last_any (max l (min (t + min x (u - t) + n) 4611686018427387903)) (u) (t + min x (u - t)) n (d) _).mono ?_
                rintro e w7 ⟨rfl, hb7⟩
                have hinv7 := hinv.below hb7
                clear c0 c1 c2 c3 c4 f0 f1 f2 f3 f4
                obtain ⟨c0, c1, c2, c3, c4, f0, f1, f2, f3, f4⟩ := hinv7.cells
                go_wp2_with fail
                refine (wants_any (max l (min (t + min x (u - t) + n) 4611686018427387903)) (u) (t + min x (u - t)) n (d) _ (by omega) (by omega) (by omega) (by omega) (by omega)).mono ?_
                rintro e w8 ⟨rfl, hb8⟩
                have hinv8 := hinv7.below hb8
                clear c0 c1 c2 c3 c4 f0 f1 f2 f3 f4
                go_wp2_with fail
                go_roundw
                case rel => exact ⟨k + 1, max l (min (t + min x (u - t) + n) 4611686018427387903), u, t + min x (u - t), d, by go_num, by omega, rfl, rfl, rfl, rfl, hinv8, by omega, by omega, by omega, by omega, by omega, by omega⟩
                case measure => simp [intOf]; omega
            · go_wp2_with fail
              refine (told_any l u t n d _).mono ?_
              rintro e w4 ⟨rfl, hb4⟩
              have hinv4 := hinv3.below hb4
              clear c0 c1 c2 c3 c4 f0 f1 f2 f3 f4
              obtain ⟨c0, c1, c2, c3, c4, f0, f1, f2, f3, f4⟩ := hinv4.cells
              go_upto_region 34 with (fail)
              refine wp_gen (fun W => Inv w W w1.heap.size ahead (ahead % 500) w2.heap.size (l) (u) (t) n (l)) (hinv4.set) ?_
              clear c0 c1 c2 c3 c4 f0 f1 f2 f3 f4 hinv3
              rintro w6 hinv
              obtain ⟨c0, c1, c2, c3, c4, f0, f1, f2, f3, f4⟩ := hinv.cells
              go_wp2_with fail
              refine (last_any (l) (u) (t) n (l) _).mono ?_
              rintro e w7 ⟨rfl, hb7⟩
              have hinv7 := hinv.below hb7
              clear c0 c1 c2 c3 c4 f0 f1 f2 f3 f4
              obtain ⟨c0, c1, c2, c3, c4, f0, f1, f2, f3, f4⟩ := hinv7.cells
              go_wp2_with fail
              refine (wants_any (l) (u) (t) n (l) _ (by omega) (by omega) (by omega) (by omega) (by omega)).mono ?_
              rintro e w8 ⟨rfl, hb8⟩
              have hinv8 := hinv7.below hb8
              clear c0 c1 c2 c3 c4 f0 f1 f2 f3 f4
              go_wp2_with fail
              go_roundw
              case rel => exact ⟨k + 1, l, u, t, l, by go_num, by omega, rfl, rfl, rfl, rfl, hinv8, by omega, by omega, by omega, by omega, by omega, by omega⟩
              case measure => simp [intOf]; omega
            · go_wp2_with fail
              refine (lost_any l u t n d _ (by omega) (by omega) (by omega) (by omega)).mono ?_
              rintro e w4 ⟨rfl, hb4⟩
              have hinv4 := hinv3.below hb4
              clear c0 c1 c2 c3 c4 f0 f1 f2 f3 f4
              obtain ⟨c0, c1, c2, c3, c4, f0, f1, f2, f3, f4⟩ := hinv4.cells
              go_upto_region 34 with (fail)
              refine wp_gen (fun W => Inv w W w1.heap.size ahead (ahead % 500) w2.heap.size (l) (u) (t) n (d - min d (n / 2 + 1))) (hinv4.set) ?_
              clear c0 c1 c2 c3 c4 f0 f1 f2 f3 f4 hinv3
              rintro w6 hinv
              obtain ⟨c0, c1, c2, c3, c4, f0, f1, f2, f3, f4⟩ := hinv.cells
              go_wp2_with fail
              refine (last_any (l) (u) (t) n (d - min d (n / 2 + 1)) _).mono ?_
              rintro e w7 ⟨rfl, hb7⟩
              have hinv7 := hinv.below hb7
              clear c0 c1 c2 c3 c4 f0 f1 f2 f3 f4
              obtain ⟨c0, c1, c2, c3, c4, f0, f1, f2, f3, f4⟩ := hinv7.cells
              go_wp2_with fail
              refine (wants_any (l) (u) (t) n (d - min d (n / 2 + 1)) _ (by omega) (by omega) (by omega) (by omega) (by omega)).mono ?_
              rintro e w8 ⟨rfl, hb8⟩
              have hinv8 := hinv7.below hb8
              clear c0 c1 c2 c3 c4 f0 f1 f2 f3 f4
              go_wp2_with fail
              go_roundw
              case rel => exact ⟨k + 1, l, u, t, d - min d (n / 2 + 1), by go_num, by omega, rfl, rfl, rfl, rfl, hinv8, by omega, by omega, by omega, by omega, by omega, by omega⟩
              case measure => simp [intOf]; omega
          · have hge : 80 ≤ k := by omega
            go_wp2_with fail
            go_roundw
            case rel => exact ⟨j + 1, by go_num, by omega, (hinv.alloc _).pair⟩
            case measure => simp [intOf]; omega
        · go_wp2_with fail
          go_roundw
          case rel => exact ⟨j + 1, by go_num, by omega, hinv.pair⟩
          case measure => simp [intOf]; omega
    · go_wp2_with fail
      go_ret
      exact ⟨rfl, hbw⟩
end Go.Proofs.Ytkmmighhmglikaa
