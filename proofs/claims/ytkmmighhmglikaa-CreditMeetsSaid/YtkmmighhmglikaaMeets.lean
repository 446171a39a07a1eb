/- CreditMeets: one who uses what the other one told, and no more, is never beyond the limit; there is room again and again. -/
import Derived.Test.YtkmmighhmglikaaCalls
import Derived.Deep.Cut
import Derived.Lib.Hide
namespace Go.Proofs.Ytkmmighhmglikaa
open Go.RowKit
set_option linter.unusedVariables false

/-- What lies in memory: what is given in block B, what was got in the next. -/
def Both (w wr : World) (B : Nat) (l u t n d l' u' : Int) : Prop :=
  Below w.heap.size w wr ∧ Box wr B l u t n d ∧ Bok wr (B + 1) l' u' 0 ∧ w.heap.size ≤ B
theorem Both.below {w wr w' : World} {B : Nat} {l u t n d l' u' : Int} (h : Both w wr B l u t n d l' u') (hb : Below wr.heap.size wr w') : Both w w' B l u t n d l' u' :=
  ⟨h.1.trans (hb.mono h.1.size), h.2.1.below hb, h.2.2.1.below hb, h.2.2.2⟩
theorem Both.alloc {w wr : World} {B : Nat} {l u t n d l' u' : Int} (h : Both w wr B l u t n d l' u') (o : Obj) : Both w (wr.alloc o) B l u t n d l' u' := h.below (grow (Below.refl _ _) o)
theorem Both.set5 {w wr : World} {B : Nat} {l u t n d l' u' x0 x1 x2 x3 x4 : Int} (h : Both w wr B l u t n d l' u') :
    Both w (((((wr.setCell ⟨B, 0, none⟩ (.int .u64 x0)).setCell ⟨B, 1, none⟩ (.int .u64 x1)).setCell ⟨B, 2, none⟩ (.int .u64 x2)).setCell ⟨B, 3, none⟩ (.int .u64 x3)).setCell ⟨B, 4, none⟩ (.int .u64 x4)) B x0 x1 x2 x3 x4 l' u' :=
  ⟨below_set5 h.1 h.2.2.2 _ _ _ _ _, h.2.1.set, h.2.2.1.set_five (by omega), h.2.2.2⟩
theorem Both.set3 {w wr : World} {B : Nat} {l u t n d l' u' x0 x1 : Int} (h : Both w wr B l u t n d l' u') :
    Both w (((wr.setCell ⟨B + 1, 0, none⟩ (.int .u64 x0)).setCell ⟨B + 1, 1, none⟩ (.int .u64 x1)).setCell ⟨B + 1, 2, none⟩ (.int .u64 0)) B l u t n d x0 x1 :=
  ⟨below_set3 h.1 (Nat.le_succ_of_le h.2.2.2) _ _ _, h.2.1.set_three (by omega), h.2.2.1.set, h.2.2.2⟩
theorem Both.cells {w wr : World} {B : Nat} {l u t n d l' u' : Int} (h : Both w wr B l u t n d l' u') :
    (wr.cell? ⟨B, 0, none⟩ = some (.int .u64 l) ∧ wr.cell? ⟨B, 1, none⟩ = some (.int .u64 u) ∧ wr.cell? ⟨B, 2, none⟩ = some (.int .u64 t) ∧ wr.cell? ⟨B, 3, none⟩ = some (.int .u64 n) ∧ wr.cell? ⟨B, 4, none⟩ = some (.int .u64 d) ∧
    wr.frozen? ⟨B, 0, none⟩ = false ∧ wr.frozen? ⟨B, 1, none⟩ = false ∧ wr.frozen? ⟨B, 2, none⟩ = false ∧ wr.frozen? ⟨B, 3, none⟩ = false ∧ wr.frozen? ⟨B, 4, none⟩ = false) ∧
    wr.cell? ⟨B + 1, 0, none⟩ = some (.int .u64 l') ∧ wr.cell? ⟨B + 1, 1, none⟩ = some (.int .u64 u') ∧ wr.cell? ⟨B + 1, 2, none⟩ = some (.int .u64 0) ∧
    wr.frozen? ⟨B + 1, 0, none⟩ = false ∧ wr.frozen? ⟨B + 1, 1, none⟩ = false ∧ wr.frozen? ⟨B + 1, 2, none⟩ = false := ⟨h.2.1.cells, h.2.2.1.cells⟩

/-- k are done: a in all are used and taken; the other one knows of d. -/
def MeetsRel (w : World) (B len : Nat) (n : Int) (x10 i : Value) (wr : World) : Prop :=
  ∃ (k : Nat) (a d : Int), i = .int .i64 k ∧ k ≤ len ∧ x10 = .int .u64 a ∧ Both w wr B (a + n) a a n d d a ∧ 0 ≤ a ∧ a ≤ d ∧ d ≤ a + n ∧ a ≤ 255 * (k : Int) ∧ k ≤ 200

set_option maxRecDepth 100000 in
set_option maxHeartbeats 4000000 in
theorem meets_any (ah : Int) (a1 a2 : Option Addr) (len c1 m c2 : Nat) (zs : Nat → Int) (fb : Nat → Bool) (w : World) (ha : 0 ≤ ah) (ha2 : ah ≤ 65535) (hlen : len ≤ 9223372036854775807) (hm : m ≤ 9223372036854775807)
    (hcell : ∀ i, i < len → ∃ b off, a1 = some ⟨b, off, none⟩ ∧ b < w.heap.size ∧ w.cell? ⟨b, off + i, none⟩ = some (.int .u8 (zs i)))
    (hz : ∀ i, i < len → 0 ≤ zs i ∧ zs i ≤ 255)
    (htold : ∀ i, i < m → ∃ b off, a2 = some ⟨b, off, none⟩ ∧ b < w.heap.size ∧ w.cell? ⟨b, off + i, none⟩ = some (.bool (fb i))) :
    Calls Try.prog 4 #[.int .u16 ah, .slice a1 len c1, .slice a2 m c2] w fun e w' => e = .returned (.bool true) ∧ Below w.heap.size w w' := by
  have Hc := Lib.hid hcell
  have Hz := Lib.hid hz
  have Ht := Lib.hid htold
  clear hcell hz htold
  go_enter Try.func4, Try.ntmps4
  go_wp2_with fail
  refine (awake_any _).mono ?_
  rintro e w1 ⟨rfl, hb1⟩
  go_upto_region 4 with (fail)
  have hn : 1 ≤ 1 + ah % 300 ∧ 1 + ah % 300 ≤ 300 := by omega
  obtain ⟨hn1, hn2⟩ := hn
  generalize 1 + ah % 300 = n at *
  go_wp2_with fail
  have h := new_any n w1 (by omega)
  rw [show min n 4611686018427387903 = n from by omega] at h
  refine h.mono ?_
  clear h
  rintro e w2 ⟨rfl, hb2⟩
  have hbw2 := hb1.trans (hb2.mono hb1.size)
  have hB := hbw2.size
  go_upto_region 6 with (fail)
  refine wp_gen (fun W => Both w W w2.heap.size n 0 0 n n 0 0) ⟨grow (grow hbw2 _) _, (Box.new _ _ _ _ _ _).below (grow (Below.refl _ _) _), by
    have hbk := Bok.new (w2.alloc (.cells #[.int .u64 n, .int .u64 0, .int .u64 0, .int .u64 n, .int .u64 n] 27)) 0 0 0
    simpa using hbk, hB⟩ ?_
  clear hb1 hb2 hbw2
  rintro w3 hw3
  obtain ⟨⟨c0, c1', c2', c3, c4, f0, f1, f2, f3, f4⟩, g0, g1, g2, e0, e1, e2⟩ := hw3.cells
  go_wp2_with fail
  refine (raise_any 0 0 0 n _).mono ?_
  rintro e w4 ⟨rfl, hb4⟩
  have hw4 := hw3.below hb4
  clear c0 c1' c2' c3 c4 f0 f1 f2 f3 f4 g0 g1 g2 e0 e1 e2
  clear hw3 hb4
  obtain ⟨⟨c0, c1', c2', c3, c4, f0, f1, f2, f3, f4⟩, g0, g1, g2, e0, e1, e2⟩ := hw4.cells
  rw [show max 0 (min n 4611686018427387903) = n from by omega]
  go_wp2_with fail
  clear c0 c1' c2' c3 c4 f0 f1 f2 f3 f4 g0 g1 g2 e0 e1 e2
  go_loopw [10, 30] (fun x10 i wr => MeetsRel w w2.heap.size len n x10 i wr) (fun x10 i wr => (len - intOf i).toNat)
  case atStart => exact ⟨0, 0, n, rfl, by omega, rfl, by rw [Int.zero_add]; exact hw4.set3, by omega, by omega, by omega, by omega, by omega⟩
  case round =>
    clear hw4
    obtain ⟨k, a, d, rfl, hk, rfl, hw, h1, h2, h3, h4, h5⟩ := hrel
    by_cases hlt : k < len ∧ k < 200
    · obtain ⟨hlt, h200⟩ := hlt
      obtain ⟨b0, o0, rfl, hb0, hc0⟩ := Hc.out k hlt
      have hc : wr.cell? ⟨b0, o0 + k, none⟩ = some (.int .u8 (zs k)) := by rw [hw.1.cell (by exact hb0)]; exact hc0
      have hz1 := (Hz.out k hlt).1
      have hz2 := (Hz.out k hlt).2
      clear hc0
      generalize zs k = x at *
      obtain ⟨⟨c0, c1', c2', c3, c4, f0, f1, f2, f3, f4⟩, g0, g1, g2, e0, e1, e2⟩ := hw.cells
      go_wp2_with fail
      refine (got_use d a 0 x _ (by omega) (by omega) (by omega) (by omega)).mono ?_
      rintro e w3 ⟨rfl, hb3⟩
      have hw3 := hw.below hb3
      clear c0 c1' c2' c3 c4 f0 f1 f2 f3 f4 g0 g1 g2 e0 e1 e2
      clear hc
      have hmn : 0 ≤ min x (d - a) ∧ min x (d - a) ≤ d - a ∧ min x (d - a) ≤ 255 := by omega
      obtain ⟨hm1, hm2, hm3⟩ := hmn
      go_upto_region 13 with (fail)
      generalize min x (d - a) = y at *
      refine wp_gen (fun W => Both w W w2.heap.size (a + n) a a n d d a ∧ Bok W w3.heap.size d (a + y) 0) ⟨hw3.alloc _, Bok.new _ _ _ _⟩ ?_
      clear hw3 hb3 hw
      rintro w5 ⟨hw5, hbx⟩
      obtain ⟨⟨c0, c1', c2', c3, c4, f0, f1, f2, f3, f4⟩, g0, g1, g2, e0, e1, e2⟩ := hw5.cells
      obtain ⟨i0, i1, i2, -⟩ := hbx.cells
      go_upto_region 14 with (fail)
      refine wp_gen (fun W => Both w W w2.heap.size (a + n) a a n d d (a + y)) hw5.set3 ?_
      clear c0 c1' c2' c3 c4 f0 f1 f2 f3 f4 g0 g1 g2 e0 e1 e2
      clear i0 i1 i2 hw5 hbx w5
      rintro w5 hw5
      obtain ⟨⟨c0, c1', c2', c3, c4, f0, f1, f2, f3, f4⟩, g0, g1, g2, e0, e1, e2⟩ := hw5.cells
      go_wp2_with fail
      refine (use_yes (a + n) a a n d y _ (by omega) (by omega) (by omega) (by omega) (by omega)).mono ?_
      rintro e w6 ⟨rfl, hb6⟩
      have hw6 := hw5.below hb6
      clear c0 c1' c2' c3 c4 f0 f1 f2 f3 f4 g0 g1 g2 e0 e1 e2
      go_upto_region 15 with (fail)
      refine wp_gen (fun W => Both w W w2.heap.size (a + n) a a n d d (a + y) ∧ Box W w6.heap.size (a + n) (a + y) a n d) ⟨hw6.alloc _, Box.new _ _ _ _ _ _⟩ ?_
      clear hw5 hb6 hw6
      rintro w7 ⟨hw7, hbx⟩
      obtain ⟨⟨c0, c1', c2', c3, c4, f0, f1, f2, f3, f4⟩, g0, g1, g2, e0, e1, e2⟩ := hw7.cells
      obtain ⟨i0, i1, i2, i3, i4, -⟩ := hbx.cells
      go_wp2_with fail
      have h := take_any (a + n) (a + y) a n d y w7 (by omega) (by omega) (by omega) (by omega) (by omega) (by omega) (by omega) (by omega)
      rw [show a + min y (a + y - a) = a + y from by omega, show max (a + n) (min (a + y + n) 4611686018427387903) = a + y + n from by omega] at h
      refine h.mono ?_
      clear h
      rintro e w8 ⟨rfl, hb8⟩
      have hw8 := hw7.below hb8
      clear c0 c1' c2' c3 c4 f0 f1 f2 f3 f4 g0 g1 g2 e0 e1 e2
      clear i0 i1 i2 i3 i4 hw7 hb8 hbx
      obtain ⟨⟨c0, c1', c2', c3, c4, f0, f1, f2, f3, f4⟩, g0, g1, g2, e0, e1, e2⟩ := hw8.cells
      go_upto_region 19 with (fail)
      refine wp_gen (fun W => Both w W w2.heap.size (a + y + n) (a + y) (a + y) n d d (a + y)) hw8.set5 ?_
      clear c0 c1' c2' c3 c4 f0 f1 f2 f3 f4 g0 g1 g2 e0 e1 e2
      clear hw8
      have hy1 : 0 ≤ a + y ∧ a + y ≤ d ∧ d ≤ a + y + n ∧ a + y ≤ 255 * ((k + 1 : Nat) : Int) := by omega
      clear h1 h2 h3 h4 hm1 hm2 hm3
      generalize a + y = z at *
      obtain ⟨h1, h2, h3, h4⟩ := hy1
      rintro w9 hw9
      obtain ⟨⟨c0, c1', c2', c3, c4, f0, f1, f2, f3, f4⟩, g0, g1, g2, e0, e1, e2⟩ := hw9.cells
      go_wp2_with fail
      by_cases hw : n / 2 < z + n - d
      · skip
        have h := wants_any (z + n) z z n d w9 (by omega) (by omega) (by omega) (by omega) (by omega)
        rw [decide_eq_true hw] at h
        refine h.mono ?_
        clear h
        rintro e w10 ⟨rfl, hb10⟩
        have hw10 := hw9.below hb10
        clear c0 c1' c2' c3 c4 f0 f1 f2 f3 f4 g0 g1 g2 e0 e1 e2
        clear hw9 hb10
        obtain ⟨⟨c0, c1', c2', c3, c4, f0, f1, f2, f3, f4⟩, g0, g1, g2, e0, e1, e2⟩ := hw10.cells
        by_cases hkm : k < m
        · obtain ⟨b1, o1, rfl, hb1, hf0⟩ := Ht.out k hkm
          have hf : w10.cell? ⟨b1, o1 + k, none⟩ = some (.bool (fb k)) := by rw [hw10.1.cell (by exact hb1)]; exact hf0
          clear hf0
          cases hfk : fb k
          · rw [hfk] at hf
            clear hfk
            go_wp2_with fail
            go_roundw
            case rel => exact ⟨k + 1, z, d, by go_num, by omega, rfl, hw10, by omega, by omega, by omega, by omega, by omega⟩
            case measure => simp [intOf]; omega
          · rw [hfk] at hf
            clear hfk
            go_wp2_with fail
            refine (told_any (z + n) z z n d _).mono ?_
            rintro e w11 ⟨rfl, hb11⟩
            have hw11 := hw10.below hb11
            clear c0 c1' c2' c3 c4 f0 f1 f2 f3 f4 g0 g1 g2 e0 e1 e2
            clear hw10 hb11
            obtain ⟨⟨c0, c1', c2', c3, c4, f0, f1, f2, f3, f4⟩, g0, g1, g2, e0, e1, e2⟩ := hw11.cells
            go_upto_region 21 with (fail)
            refine wp_gen (fun W => Both w W w2.heap.size (z + n) z z n (z + n) d z) hw11.set5 ?_
            clear c0 c1' c2' c3 c4 f0 f1 f2 f3 f4 g0 g1 g2 e0 e1 e2
            clear hw11
            rintro w12 hw12
            obtain ⟨⟨c0, c1', c2', c3, c4, f0, f1, f2, f3, f4⟩, g0, g1, g2, e0, e1, e2⟩ := hw12.cells
            go_wp2_with fail
            refine (raise_any d z 0 (z + n) _).mono ?_
            rintro e w13 ⟨rfl, hb13⟩
            have hw13 := hw12.below hb13
            clear c0 c1' c2' c3 c4 f0 f1 f2 f3 f4 g0 g1 g2 e0 e1 e2
            clear hw12 hb13
            obtain ⟨⟨c0, c1', c2', c3, c4, f0, f1, f2, f3, f4⟩, g0, g1, g2, e0, e1, e2⟩ := hw13.cells
            rw [show max d (min (z + n) 4611686018427387903) = z + n from by omega]
            go_upto_region 22 with (fail)
            refine wp_gen (fun W => Both w W w2.heap.size (z + n) z z n (z + n) (z + n) z) hw13.set3 ?_
            clear c0 c1' c2' c3 c4 f0 f1 f2 f3 f4 g0 g1 g2 e0 e1 e2
            clear hw13
            rintro w14 hw14
            obtain ⟨⟨c0, c1', c2', c3, c4, f0, f1, f2, f3, f4⟩, g0, g1, g2, e0, e1, e2⟩ := hw14.cells
            go_wp2_with fail
            go_roundw
            case rel => exact ⟨k + 1, z, z + n, by go_num, by omega, rfl, hw14, by omega, by omega, by omega, by omega, by omega⟩
            case measure => simp [intOf]; omega
        · have hmk : m ≤ k := by omega
          go_wp2_with fail
          refine (told_any (z + n) z z n d _).mono ?_
          rintro e w11 ⟨rfl, hb11⟩
          have hw11 := hw10.below hb11
          clear c0 c1' c2' c3 c4 f0 f1 f2 f3 f4 g0 g1 g2 e0 e1 e2
          clear hw10 hb11
          obtain ⟨⟨c0, c1', c2', c3, c4, f0, f1, f2, f3, f4⟩, g0, g1, g2, e0, e1, e2⟩ := hw11.cells
          go_upto_region 21 with (fail)
          refine wp_gen (fun W => Both w W w2.heap.size (z + n) z z n (z + n) d z) hw11.set5 ?_
          clear c0 c1' c2' c3 c4 f0 f1 f2 f3 f4 g0 g1 g2 e0 e1 e2
          clear hw11
          rintro w12 hw12
          obtain ⟨⟨c0, c1', c2', c3, c4, f0, f1, f2, f3, f4⟩, g0, g1, g2, e0, e1, e2⟩ := hw12.cells
          go_wp2_with fail
          refine (raise_any d z 0 (z + n) _).mono ?_
          rintro e w13 ⟨rfl, hb13⟩
          have hw13 := hw12.below hb13
          clear c0 c1' c2' c3 c4 f0 f1 f2 f3 f4 g0 g1 g2 e0 e1 e2
          clear hw12 hb13
          obtain ⟨⟨c0, c1', c2', c3, c4, f0, f1, f2, f3, f4⟩, g0, g1, g2, e0, e1, e2⟩ := hw13.cells
          rw [show max d (min (z + n) 4611686018427387903) = z + n from by omega]
          go_upto_region 22 with (fail)
          refine wp_gen (fun W => Both w W w2.heap.size (z + n) z z n (z + n) (z + n) z) hw13.set3 ?_
          clear c0 c1' c2' c3 c4 f0 f1 f2 f3 f4 g0 g1 g2 e0 e1 e2
          clear hw13
          rintro w14 hw14
          obtain ⟨⟨c0, c1', c2', c3, c4, f0, f1, f2, f3, f4⟩, g0, g1, g2, e0, e1, e2⟩ := hw14.cells
          go_wp2_with fail
          go_roundw
          case rel => exact ⟨k + 1, z, z + n, by go_num, by omega, rfl, hw14, by omega, by omega, by omega, by omega, by omega⟩
          case measure => simp [intOf]; omega
      · skip
        have h := wants_any (z + n) z z n d w9 (by omega) (by omega) (by omega) (by omega) (by omega)
        rw [decide_eq_false (by omega)] at h
        refine h.mono ?_
        clear h
        rintro e w10 ⟨rfl, hb10⟩
        have hw10 := hw9.below hb10
        clear c0 c1' c2' c3 c4 f0 f1 f2 f3 f4 g0 g1 g2 e0 e1 e2
        clear hw9 hb10
        obtain ⟨⟨c0, c1', c2', c3, c4, f0, f1, f2, f3, f4⟩, g0, g1, g2, e0, e1, e2⟩ := hw10.cells
        go_wp2_with fail
        go_roundw
        case rel => exact ⟨k + 1, z, d, by go_num, by omega, rfl, hw10, by omega, by omega, by omega, by omega, by omega⟩
        case measure => simp [intOf]; omega
    · by_cases hlt2 : k < len
      · have h200 : 200 ≤ k := by omega
        obtain ⟨b0, o0, rfl, hb0, hc0⟩ := Hc.out k hlt2
        have hc : wr.cell? ⟨b0, o0 + k, none⟩ = some (.int .u8 (zs k)) := by rw [hw.1.cell (by exact hb0)]; exact hc0
        clear hc0
        go_upto_region 25 with (fail)
        clear hc
        by_cases hwn : n / 2 < a + n - d
        · skip
          obtain ⟨⟨c0, c1', c2', c3, c4, f0, f1, f2, f3, f4⟩, g0, g1, g2, e0, e1, e2⟩ := hw.cells
          go_wp2_with fail
          have h := wants_any (a + n) a a n d wr (by omega) (by omega) (by omega) (by omega) (by omega)
          rw [decide_eq_true hwn] at h
          refine h.mono ?_
          clear h
          rintro e w10 ⟨rfl, hb10⟩
          have hw10 := hw.below hb10
          clear c0 c1' c2' c3 c4 f0 f1 f2 f3 f4 g0 g1 g2 e0 e1 e2
          clear hw hb10
          obtain ⟨⟨c0, c1', c2', c3, c4, f0, f1, f2, f3, f4⟩, g0, g1, g2, e0, e1, e2⟩ := hw10.cells
          go_wp2_with fail
          refine (told_any (a + n) a a n d _).mono ?_
          rintro e w11 ⟨rfl, hb11⟩
          have hw11 := hw10.below hb11
          clear c0 c1' c2' c3 c4 f0 f1 f2 f3 f4 g0 g1 g2 e0 e1 e2
          clear hw10 hb11
          obtain ⟨⟨c0, c1', c2', c3, c4, f0, f1, f2, f3, f4⟩, g0, g1, g2, e0, e1, e2⟩ := hw11.cells
          go_upto_region 27 with (fail)
          refine wp_gen (fun W => Both w W w2.heap.size (a + n) a a n (a + n) d a) hw11.set5 ?_
          clear c0 c1' c2' c3 c4 f0 f1 f2 f3 f4 g0 g1 g2 e0 e1 e2
          clear hw11
          rintro w12 hw12
          obtain ⟨⟨c0, c1', c2', c3, c4, f0, f1, f2, f3, f4⟩, g0, g1, g2, e0, e1, e2⟩ := hw12.cells
          go_wp2_with fail
          refine (raise_any d a 0 (a + n) _).mono ?_
          rintro e w13 ⟨rfl, hb13⟩
          have hw13 := hw12.below hb13
          clear c0 c1' c2' c3 c4 f0 f1 f2 f3 f4 g0 g1 g2 e0 e1 e2
          clear hw12 hb13
          obtain ⟨⟨c0, c1', c2', c3, c4, f0, f1, f2, f3, f4⟩, g0, g1, g2, e0, e1, e2⟩ := hw13.cells
          rw [show max d (min (a + n) 4611686018427387903) = a + n from by omega]
          go_upto_region 28 with (fail)
          refine wp_gen (fun W => Both w W w2.heap.size (a + n) a a n (a + n) (a + n) a) hw13.set3 ?_
          clear c0 c1' c2' c3 c4 f0 f1 f2 f3 f4 g0 g1 g2 e0 e1 e2
          clear hw13
          rintro w14 hw14
          obtain ⟨⟨c0, c1', c2', c3, c4, f0, f1, f2, f3, f4⟩, g0, g1, g2, e0, e1, e2⟩ := hw14.cells
          have hn0 : 0 < a + n - a := by omega
          have hn3 : n / 2 ≤ a + n - a := by omega
          go_wp2_with fail
          refine (got_room (a + n) a 0 _ (by omega) (by omega) (by omega)).mono ?_
          rintro e w15 ⟨rfl, hb15⟩
          have hw15 := hw14.below hb15
          clear c0 c1' c2' c3 c4 f0 f1 f2 f3 f4 g0 g1 g2 e0 e1 e2
          obtain ⟨⟨c0, c1', c2', c3, c4, f0, f1, f2, f3, f4⟩, g0, g1, g2, e0, e1, e2⟩ := hw15.cells
          go_wp2_with fail
          refine (got_room (a + n) a 0 _ (by omega) (by omega) (by omega)).mono ?_
          rintro e w16 ⟨rfl, hb16⟩
          have hw16 := hw15.below hb16
          go_wp2_with fail
          go_ret
          exact ⟨rfl, hw16.1⟩
        · skip
          obtain ⟨⟨c0, c1', c2', c3, c4, f0, f1, f2, f3, f4⟩, g0, g1, g2, e0, e1, e2⟩ := hw.cells
          go_wp2_with fail
          have h := wants_any (a + n) a a n d wr (by omega) (by omega) (by omega) (by omega) (by omega)
          rw [decide_eq_false (by omega)] at h
          refine h.mono ?_
          clear h
          rintro e w10 ⟨rfl, hb10⟩
          have hw10 := hw.below hb10
          clear c0 c1' c2' c3 c4 f0 f1 f2 f3 f4 g0 g1 g2 e0 e1 e2
          clear hw hb10
          obtain ⟨⟨c0, c1', c2', c3, c4, f0, f1, f2, f3, f4⟩, g0, g1, g2, e0, e1, e2⟩ := hw10.cells
          have hn0 : 0 < d - a := by omega
          have hn3 : n / 2 ≤ d - a := by omega
          go_wp2_with fail
          refine (got_room (d) a 0 _ (by omega) (by omega) (by omega)).mono ?_
          rintro e w15 ⟨rfl, hb15⟩
          have hw15 := hw10.below hb15
          clear c0 c1' c2' c3 c4 f0 f1 f2 f3 f4 g0 g1 g2 e0 e1 e2
          obtain ⟨⟨c0, c1', c2', c3, c4, f0, f1, f2, f3, f4⟩, g0, g1, g2, e0, e1, e2⟩ := hw15.cells
          go_wp2_with fail
          refine (got_room (d) a 0 _ (by omega) (by omega) (by omega)).mono ?_
          rintro e w16 ⟨rfl, hb16⟩
          have hw16 := hw15.below hb16
          go_wp2_with fail
          go_ret
          exact ⟨rfl, hw16.1⟩
      · go_upto_region 25 with (fail)
        by_cases hwn : n / 2 < a + n - d
        · skip
          obtain ⟨⟨c0, c1', c2', c3, c4, f0, f1, f2, f3, f4⟩, g0, g1, g2, e0, e1, e2⟩ := hw.cells
          go_wp2_with fail
          have h := wants_any (a + n) a a n d wr (by omega) (by omega) (by omega) (by omega) (by omega)
          rw [decide_eq_true hwn] at h
          refine h.mono ?_
          clear h
          rintro e w10 ⟨rfl, hb10⟩
          have hw10 := hw.below hb10
          clear c0 c1' c2' c3 c4 f0 f1 f2 f3 f4 g0 g1 g2 e0 e1 e2
          clear hw hb10
          obtain ⟨⟨c0, c1', c2', c3, c4, f0, f1, f2, f3, f4⟩, g0, g1, g2, e0, e1, e2⟩ := hw10.cells
          go_wp2_with fail
          refine (told_any (a + n) a a n d _).mono ?_
          rintro e w11 ⟨rfl, hb11⟩
          have hw11 := hw10.below hb11
          clear c0 c1' c2' c3 c4 f0 f1 f2 f3 f4 g0 g1 g2 e0 e1 e2
          clear hw10 hb11
          obtain ⟨⟨c0, c1', c2', c3, c4, f0, f1, f2, f3, f4⟩, g0, g1, g2, e0, e1, e2⟩ := hw11.cells
          go_upto_region 27 with (fail)
          refine wp_gen (fun W => Both w W w2.heap.size (a + n) a a n (a + n) d a) hw11.set5 ?_
          clear c0 c1' c2' c3 c4 f0 f1 f2 f3 f4 g0 g1 g2 e0 e1 e2
          clear hw11
          rintro w12 hw12
          obtain ⟨⟨c0, c1', c2', c3, c4, f0, f1, f2, f3, f4⟩, g0, g1, g2, e0, e1, e2⟩ := hw12.cells
          go_wp2_with fail
          refine (raise_any d a 0 (a + n) _).mono ?_
          rintro e w13 ⟨rfl, hb13⟩
          have hw13 := hw12.below hb13
          clear c0 c1' c2' c3 c4 f0 f1 f2 f3 f4 g0 g1 g2 e0 e1 e2
          clear hw12 hb13
          obtain ⟨⟨c0, c1', c2', c3, c4, f0, f1, f2, f3, f4⟩, g0, g1, g2, e0, e1, e2⟩ := hw13.cells
          rw [show max d (min (a + n) 4611686018427387903) = a + n from by omega]
          go_upto_region 28 with (fail)
          refine wp_gen (fun W => Both w W w2.heap.size (a + n) a a n (a + n) (a + n) a) hw13.set3 ?_
          clear c0 c1' c2' c3 c4 f0 f1 f2 f3 f4 g0 g1 g2 e0 e1 e2
          clear hw13
          rintro w14 hw14
          obtain ⟨⟨c0, c1', c2', c3, c4, f0, f1, f2, f3, f4⟩, g0, g1, g2, e0, e1, e2⟩ := hw14.cells
          have hn0 : 0 < a + n - a := by omega
          have hn3 : n / 2 ≤ a + n - a := by omega
          go_wp2_with fail
          refine (got_room (a + n) a 0 _ (by omega) (by omega) (by omega)).mono ?_
          rintro e w15 ⟨rfl, hb15⟩
          have hw15 := hw14.below hb15
          clear c0 c1' c2' c3 c4 f0 f1 f2 f3 f4 g0 g1 g2 e0 e1 e2
          obtain ⟨⟨c0, c1', c2', c3, c4, f0, f1, f2, f3, f4⟩, g0, g1, g2, e0, e1, e2⟩ := hw15.cells
          go_wp2_with fail
          refine (got_room (a + n) a 0 _ (by omega) (by omega) (by omega)).mono ?_
          rintro e w16 ⟨rfl, hb16⟩
          have hw16 := hw15.below hb16
          go_wp2_with fail
          go_ret
          exact ⟨rfl, hw16.1⟩
        · skip
          obtain ⟨⟨c0, c1', c2', c3, c4, f0, f1, f2, f3, f4⟩, g0, g1, g2, e0, e1, e2⟩ := hw.cells
          go_wp2_with fail
          have h := wants_any (a + n) a a n d wr (by omega) (by omega) (by omega) (by omega) (by omega)
          rw [decide_eq_false (by omega)] at h
          refine h.mono ?_
          clear h
          rintro e w10 ⟨rfl, hb10⟩
          have hw10 := hw.below hb10
          clear c0 c1' c2' c3 c4 f0 f1 f2 f3 f4 g0 g1 g2 e0 e1 e2
          clear hw hb10
          obtain ⟨⟨c0, c1', c2', c3, c4, f0, f1, f2, f3, f4⟩, g0, g1, g2, e0, e1, e2⟩ := hw10.cells
          have hn0 : 0 < d - a := by omega
          have hn3 : n / 2 ≤ d - a := by omega
          go_wp2_with fail
          refine (got_room (d) a 0 _ (by omega) (by omega) (by omega)).mono ?_
          rintro e w15 ⟨rfl, hb15⟩
          have hw15 := hw10.below hb15
          clear c0 c1' c2' c3 c4 f0 f1 f2 f3 f4 g0 g1 g2 e0 e1 e2
          obtain ⟨⟨c0, c1', c2', c3, c4, f0, f1, f2, f3, f4⟩, g0, g1, g2, e0, e1, e2⟩ := hw15.cells
          go_wp2_with fail
          refine (got_room (d) a 0 _ (by omega) (by omega) (by omega)).mono ?_
          rintro e w16 ⟨rfl, hb16⟩
          have hw16 := hw15.below hb16
          go_wp2_with fail
          go_ret
          exact ⟨rfl, hw16.1⟩
end Go.Proofs.Ytkmmighhmglikaa
