/- RttBounds: the smooth time lies between the least and the greatest that counted; no probe comes ahead of it. -/
import Derived.Test.YtommnhomccjkkaaCalls
import Derived.Deep.RegionHeld3
import Derived.Deep.DrawnRows
import Derived.Lib.Hide
namespace Go.Proofs.Ytommnhomccjkkaa
open Go.RowKit
set_option linter.unusedVariables false
attribute [local go_sem ↓] Go.wp_at_zero Go.wp_at_succ

/-- A row of cells that came in: where it lies, cell by cell. -/
theorem row_plain {k : IntKind} {w : World} {x : Addr} {zs : List Int} (h0 : 0 < zs.length) (h : ∀ i, i < zs.length → w.cell? (x.add i) = some (.int k (zs.getD i 0))) :
    ∃ b off, x = ⟨b, off, none⟩ ∧ b < w.heap.size ∧ ∀ i, i < zs.length → w.cell? ⟨b, off + i, none⟩ = some (.int k (zs.getD i 0)) := by
  obtain ⟨b, off, spot⟩ := x
  have h1 := h 0 h0
  have hspot : spot = none := by simpa [Addr.add] using World.cell?_spot h1
  subst hspot
  have hb := block_lt_of_cell h1
  refine ⟨b, off, rfl, by simpa [Addr.add] using hb, fun i hi => ?_⟩
  have h2 := h i hi
  unfold Addr.add at h2
  split at h2
  · subst i; simpa using h2
  · exact h2

theorem wp_gen {P : Program} {c : Code} {Q : Exit → Act → World → Prop} {a : Act} {w : World} (R : World → Prop) (h : R w) (k : ∀ W, R W → Code.wp P c Q a W) : Code.wp P c Q a w := k w h

/-- A probe comes no sooner than the smooth time, the grain and what is waited, together. -/
theorem probe_ge (l le s v x : Int) (b : Bool) (w : World) (hv : 0 ≤ v) (hv2 : v ≤ 1125899906842624) (hs : 0 ≤ s) (hs2 : s ≤ 1125899906842624) (hx : 0 ≤ x) (hx2 : x ≤ 4294967295) :
    Calls Try.prog 10 #[rv l le s v b, .int .u64 x] w fun e w' => ∃ p : Int, e = .returned (.int .u64 p) ∧ decide (p < s + 1000 + x) = false ∧ Below w.heap.size w w' :=
  (probe_any l le s v x b w hv hv2 hs hs2 hx (by omega)).mono fun e w' ⟨he, hb⟩ => ⟨_, he, decide_eq_false (by unfold Mx; omega), hb⟩

theorem lost_ge (l le s v : Int) (b : Bool) (w : World) (hl : 0 ≤ l) (hl2 : l ≤ 1125899906842624) (hs : 0 ≤ s) (hs2 : s ≤ 1125899906842624) :
    Calls Try.prog 9 #[rv l le s v b] w fun e w' => ∃ p : Int, e = .returned (.int .u64 p) ∧ decide (p < l) = false ∧ Below w.heap.size w w' :=
  (lost_any l le s v b w hl hl2 hs hs2).mono fun e w' ⟨he, hb⟩ => ⟨_, he, decide_eq_false (by omega), hb⟩

theorem keep5 {w w' : World} {B : Nat} {x0 x1 x2 x3 x4 : Value} (hb : Below w.heap.size w w')
    (h : w.cell? ⟨B, 0, none⟩ = some x0 ∧ w.cell? ⟨B, 1, none⟩ = some x1 ∧ w.cell? ⟨B, 2, none⟩ = some x2 ∧ w.cell? ⟨B, 3, none⟩ = some x3 ∧ w.cell? ⟨B, 4, none⟩ = some x4 ∧ B < w.heap.size) :
    w'.cell? ⟨B, 0, none⟩ = some x0 ∧ w'.cell? ⟨B, 1, none⟩ = some x1 ∧ w'.cell? ⟨B, 2, none⟩ = some x2 ∧ w'.cell? ⟨B, 3, none⟩ = some x3 ∧ w'.cell? ⟨B, 4, none⟩ = some x4 ∧ B < w'.heap.size := by
  obtain ⟨h0, h1, h2, h3, h4, hB⟩ := h
  exact ⟨(hb.cell (p := ⟨B, 0, none⟩) hB).trans h0, (hb.cell (p := ⟨B, 1, none⟩) hB).trans h1, (hb.cell (p := ⟨B, 2, none⟩) hB).trans h2, (hb.cell (p := ⟨B, 3, none⟩) hB).trans h3, (hb.cell (p := ⟨B, 4, none⟩) hB).trans h4, Nat.lt_of_lt_of_le hB hb.size⟩

/-- What holds at the head of each round: k of them are done; the least, the greatest, the box. -/
def BoundsRel (w : World) (B len : Nat) (lo hi i : Value) (wr : World) : Prop :=
  ∃ k : Nat, i = .int .i64 k ∧ k ≤ len ∧ Below w.heap.size w wr ∧
    ((lo = .int .u64 4611686018427387904 ∧ hi = .int .u64 0 ∧ Box wr B 0 0 333000 166500 false) ∨
     (∃ l a b s v : Int, lo = .int .u64 a ∧ hi = .int .u64 b ∧ Box wr B l a s v true ∧ 0 ≤ l ∧ l ≤ 4294967295 ∧ 0 ≤ a ∧ a ≤ 4294967295 ∧ 0 ≤ b ∧ b ≤ 4294967295 ∧ 0 ≤ s ∧ s ≤ b ∧ a ≤ s + 8 ∧ 0 ≤ v ∧ v ≤ 4294967295))

set_option maxHeartbeats 400000 in
theorem bounds_none (a0 : Option Addr) (cap : Nat) (q : Int) (w : World) :
    Calls Try.prog 5 #[.slice a0 0 cap, .int .u32 q] w fun e w' => e = .returned (.bool true) ∧ Below w.heap.size w w' := by
  go_enter Try.func5, Try.ntmps5
  go_wp2_with fail
  refine (awake_any _).mono ?_
  rintro e w1 ⟨rfl, hb1⟩
  go_wp2_with fail
  refine (new_any _).mono ?_
  rintro e w2 ⟨rfl, hb2⟩
  have hB : w.heap.size ≤ w2.heap.size := Nat.le_trans hb1.size hb2.size
  have hb12 : Below w.heap.size w w2 := hb1.trans (hb2.mono hb1.size)
  go_wp2_with fail
  go_loopw [15] (fun i wr => i = .int .i64 0 ∧ Below w.heap.size w wr) (fun i wr => 0)
  case atStart => exact ⟨rfl, hb12.alloc hB _⟩
  case round =>
    obtain ⟨rfl, hbw⟩ := hrel
    go_wp2_with fail
    go_ret
    exact ⟨rfl, hbw⟩

set_option maxHeartbeats 1000000 in
theorem bounds_some (b off len cap : Nat) (zs : List Int) (q : Int) (w : World) (hlen : len ≤ 9223372036854775807) (hcell : ∀ i, i < len → w.cell? ⟨b, off + i, none⟩ = some (.int .u32 (zs.getD i 0)))
    (hz : ∀ i, 0 ≤ zs.getD i 0 ∧ zs.getD i 0 ≤ 4294967295) (hb : 0 < len → b < w.heap.size) (hq : 0 ≤ q) (hq2 : q ≤ 4294967295) :
    Calls Try.prog 5 #[.slice (some ⟨b, off, none⟩) len cap, .int .u32 q] w fun e w' => e = .returned (.bool true) ∧ Below w.heap.size w w' := by
  have Hc := Lib.hid hcell
  have Hz := Lib.hid hz
  clear hcell hz
  go_enter Try.func5, Try.ntmps5
  go_wp2_with fail
  refine (awake_any _).mono ?_
  rintro e w1 ⟨rfl, hb1⟩
  go_wp2_with fail
  refine (new_any _).mono ?_
  rintro e w2 ⟨rfl, hb2⟩
  have hB : w.heap.size ≤ w2.heap.size := Nat.le_trans hb1.size hb2.size
  have hb12 : Below w.heap.size w w2 := hb1.trans (hb2.mono hb1.size)
  go_wp2_with fail
  go_loopw [6, 7, 15] (fun lo hi i wr => BoundsRel w w2.heap.size len lo hi i wr)
     (fun lo hi i wr => (len - intOf i).toNat)
  case atStart => exact ⟨0, rfl, by omega, hb12.alloc hB _, .inl ⟨rfl, rfl, Box.new _ _ _ _ _ _⟩⟩
  case round =>
    obtain ⟨k, rfl, hk, hbw, hor⟩ := hrel
    by_cases hlt : k < len
    · by_cases h100 : k < 100
      · have hblk := hb (by omega)
        have hc : wr.cell? ⟨b, off + k, none⟩ = some (.int .u32 (zs.getD k 0)) := by rw [hbw.cell (by exact hblk)]; exact Hc.out k hlt
        have hn := (Hz.out k).1
        have hn2 := (Hz.out k).2
        generalize zs.getD k 0 = n at *
        rcases hor with ⟨rfl, rfl, hbox⟩ | ⟨l, lo, hi, s, v, rfl, rfl, hbox, h1, h2, h3, h4, h5, h6, h7, h8, h9, h10, h11⟩
        · obtain ⟨c0, c1, c2, c3, c4, f0, f1, f2, f3, f4⟩ := hbox.cells
          go_wp2_with fail
          have h := measure_first 0 0 333000 166500 n 0 0 wr (by omega) (by omega)
          rw [show min n Mx = n from by unfold Mx; omega] at h
          refine h.mono ?_
          clear h
          rintro e w3 ⟨rfl, hb3⟩
          have hbox3 := hbox.below hb3
          clear c0 c1 c2 c3 c4 f0 f1 f2 f3 f4 hc
          obtain ⟨c0, c1, c2, c3, c4, f0, f1, f2, f3, f4⟩ := hbox3.cells
          go_wp2_with fail
          rw [show min 4611686018427387904 n = n from by omega, show max 0 n = n from by omega]
          refine wp_gen (fun W => Box W w2.heap.size n n n (n / 2) true ∧ Below w.heap.size w W) ⟨hbox3.set, below_set5 (hbw.trans (hb3.mono hbw.size)) hB _ _ _ _ _⟩ ?_
          clear c0 c1 c2 c3 c4 f0 f1 f2 f3 f4 hbox3 hb3 hbox hbw w3
          rintro w3 ⟨hbox, hbw⟩
          obtain ⟨c0, c1, c2, c3, c4, f0, f1, f2, f3, f4⟩ := hbox.cells
          have hsz : w2.heap.size < w3.heap.size := (Array.getElem?_eq_some_iff.1 hbox).1
          have e1 : IntKind.u64.wrap (n + 8) = n + 8 := IntWalk.u64_in _ (by omega)
          have e2 : IntKind.u64.wrap (n + 1000) = n + 1000 := IntWalk.u64_in _ (by omega)
          have e3 : IntKind.u64.wrap (n + 1000 + q) = n + 1000 + q := IntWalk.u64_in _ (by omega)
          have e4 : IntKind.u64.wrap n = n := IntWalk.u64_in _ (by omega)
          have e5 : IntKind.u64.wrap q = q := IntWalk.u64_in _ (by omega)
          have t1 : decide (n + 8 < n) = false := decide_eq_false (by omega)
          have t2 : decide (n < n) = false := decide_eq_false (by omega)
          have hv0 : 0 ≤ n / 2 ∧ n / 2 ≤ 1125899906842624 := by omega
          have hs0 : 0 ≤ n ∧ n ≤ 1125899906842624 := by omega
          have hn0 : 0 ≤ n ∧ n ≤ 1125899906842624 := by omega
          have Hv := Lib.hid hv0
          have Hs := Lib.hid hs0
          have Hn := Lib.hid hn0
          clear hv0 hs0 hn0
          go_region_held3 (fun w' => w'.cell? ⟨w2.heap.size, 0, none⟩ = some (.int .u64 n) ∧ w'.cell? ⟨w2.heap.size, 1, none⟩ = some (.int .u64 n) ∧ w'.cell? ⟨w2.heap.size, 2, none⟩ = some (.int .u64 n) ∧ w'.cell? ⟨w2.heap.size, 3, none⟩ = some (.int .u64 (n / 2)) ∧ w'.cell? ⟨w2.heap.size, 4, none⟩ = some (.bool true) ∧ w2.heap.size < w'.heap.size)
            (first | go_keep | (refine keep5 hbl ?_; assumption) | (refine keep5 hbp ?_; assumption))
            (first | (go_at_call 10; refine (probe_ge n n n (n / 2) q true _ Hv.out.1 Hv.out.2 Hs.out.1 Hs.out.2 hq hq2).mono ?_; rintro e w4 ⟨p, rfl, tp, hbp⟩) | (go_at_call 9; refine (lost_ge n n n (n / 2) true _ Hn.out.1 Hn.out.2 Hs.out.1 Hs.out.2).mono ?_; rintro e w5 ⟨p2, rfl, tp2, hbl⟩))
          go_wp2
          have hb4 : Below w.heap.size w w4 := hbw.drew.trans (hbp.mono hbw.drew.size)
          have hb5 : Below w.heap.size w w5 := hb4.trans (hbl.mono hb4.size)
          have hboxd : Box w3.drew w2.heap.size n n n (n / 2) true := hbox
          have hbox5 := (hboxd.below hbp).below hbl
          have Hv0 := Hv.out
          have Hs0 := Hs.out
          go_roundw
          case rel => exact ⟨k + 1, by go_num, by omega, hb5, .inr ⟨n, n, n, n, n / 2, rfl, rfl, hbox5, by omega, by omega, by omega, by omega, by omega, by omega, by omega, by omega, by omega, by omega, by omega⟩⟩
          case measure => simp [intOf]; omega
        · obtain ⟨c0, c1, c2, c3, c4, f0, f1, f2, f3, f4⟩ := hbox.cells
          go_wp2_with fail
          have h := measure_later l lo s v n 0 0 wr (by omega) (by omega) (by omega) (by omega) (by omega) (by omega) (by omega) (by omega) (by omega) (by omega)
          rw [show min n Mx = n from by unfold Mx; omega, smp_zero] at h
          have hs1 := nSm_lo s n (by omega) (by omega)
          have hs2 := nSm_hi s n (max hi n) (by omega) (by omega)
          have hs3 : min lo n ≤ nSm s n + 8 := by unfold nSm; omega
          have hv1 := nVar_lo s v n (by omega)
          have hv2 := nVar_hi s v n 4294967295 (by omega) (by omega) (by omega) (by omega) (by omega)
          generalize nSm s n = s' at *
          generalize nVar s v n = v' at *
          refine h.mono ?_
          clear h
          rintro e w3 ⟨rfl, hb3⟩
          have hbox3 := hbox.below hb3
          clear c0 c1 c2 c3 c4 f0 f1 f2 f3 f4 hc
          obtain ⟨c0, c1, c2, c3, c4, f0, f1, f2, f3, f4⟩ := hbox3.cells
          go_wp2_with fail
          have ha1 : 0 ≤ min lo n ∧ min lo n ≤ 4294967295 := by omega
          have hi1 : 0 ≤ max hi n ∧ max hi n ≤ 4294967295 := by omega
          refine wp_gen (fun W => Box W w2.heap.size n (min lo n) s' v' true ∧ Below w.heap.size w W) ⟨hbox3.set, below_set5 (hbw.trans (hb3.mono hbw.size)) hB _ _ _ _ _⟩ ?_
          clear c0 c1 c2 c3 c4 f0 f1 f2 f3 f4 hbox3 hb3 hbox hbw w3
          generalize min lo n = a at *
          generalize max hi n = hi' at *
          rintro w3 ⟨hbox, hbw⟩
          obtain ⟨c0, c1, c2, c3, c4, f0, f1, f2, f3, f4⟩ := hbox.cells
          have hsz : w2.heap.size < w3.heap.size := (Array.getElem?_eq_some_iff.1 hbox).1
          have e1 : IntKind.u64.wrap (s' + 8) = s' + 8 := IntWalk.u64_in _ (by omega)
          have e2 : IntKind.u64.wrap (s' + 1000) = s' + 1000 := IntWalk.u64_in _ (by omega)
          have e3 : IntKind.u64.wrap (s' + 1000 + q) = s' + 1000 + q := IntWalk.u64_in _ (by omega)
          have e4 : IntKind.u64.wrap n = n := IntWalk.u64_in _ (by omega)
          have e5 : IntKind.u64.wrap q = q := IntWalk.u64_in _ (by omega)
          have t1 : decide (s' + 8 < a) = false := decide_eq_false (by omega)
          have t2 : decide (hi' < s') = false := decide_eq_false (by omega)
          have hv0 : 0 ≤ v' ∧ v' ≤ 1125899906842624 := by omega
          have hs0 : 0 ≤ s' ∧ s' ≤ 1125899906842624 := by omega
          have hn0 : 0 ≤ n ∧ n ≤ 1125899906842624 := by omega
          have Hv := Lib.hid hv0
          have Hs := Lib.hid hs0
          have Hn := Lib.hid hn0
          clear hv0 hs0 hn0
          go_region_held3 (fun w' => w'.cell? ⟨w2.heap.size, 0, none⟩ = some (.int .u64 n) ∧ w'.cell? ⟨w2.heap.size, 1, none⟩ = some (.int .u64 a) ∧ w'.cell? ⟨w2.heap.size, 2, none⟩ = some (.int .u64 s') ∧ w'.cell? ⟨w2.heap.size, 3, none⟩ = some (.int .u64 (v')) ∧ w'.cell? ⟨w2.heap.size, 4, none⟩ = some (.bool true) ∧ w2.heap.size < w'.heap.size)
            (first | go_keep | (refine keep5 hbl ?_; assumption) | (refine keep5 hbp ?_; assumption))
            (first | (go_at_call 10; refine (probe_ge n a s' (v') q true _ Hv.out.1 Hv.out.2 Hs.out.1 Hs.out.2 hq hq2).mono ?_; rintro e w4 ⟨p, rfl, tp, hbp⟩) | (go_at_call 9; refine (lost_ge n a s' (v') true _ Hn.out.1 Hn.out.2 Hs.out.1 Hs.out.2).mono ?_; rintro e w5 ⟨p2, rfl, tp2, hbl⟩))
          go_wp2
          have hb4 : Below w.heap.size w w4 := hbw.drew.trans (hbp.mono hbw.drew.size)
          have hb5 : Below w.heap.size w w5 := hb4.trans (hbl.mono hb4.size)
          have hboxd : Box w3.drew w2.heap.size n a s' (v') true := hbox
          have hbox5 := (hboxd.below hbp).below hbl
          have Hv0 := Hv.out
          have Hs0 := Hs.out
          go_roundw
          case rel => exact ⟨k + 1, by go_num, by omega, hb5, .inr ⟨n, a, hi', s', v', rfl, rfl, hbox5, by omega, by omega, by omega, by omega, by omega, by omega, by omega, by omega, by omega, by omega, by omega⟩⟩
          case measure => simp [intOf]; omega
      · have hblk := hb (by omega)
        have hc : wr.cell? ⟨b, off + k, none⟩ = some (.int .u32 (zs.getD k 0)) := by rw [hbw.cell (by exact hblk)]; exact Hc.out k hlt
        have hge : 100 ≤ k := by omega
        go_wp2_with fail
        go_ret
        exact ⟨rfl, hbw⟩
    · go_wp2_with fail
      go_ret
      exact ⟨rfl, hbw⟩
end Go.Proofs.Ytommnhomccjkkaa
