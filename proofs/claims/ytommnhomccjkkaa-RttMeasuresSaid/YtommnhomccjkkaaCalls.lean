/- What the calls of package rtt do: New, Measure, Lost, Probe, and the law's own Awake. Each returns what is said here and leaves what was there before as it was. -/
import Derived.Test.YtommnhomccjkkaaRows
import Derived.Test.YtommnhomccjkkaaPlain
import Derived.WalkKit
import Derived.WalkSpells
import Derived.WalkLawsBesides
import Derived.Lib.MinMax
namespace Go.Proofs.Ytommnhomccjkkaa
open Go.RowKit
set_option linter.unusedVariables false

abbrev rv (l le s v : Int) (b : Bool) : Value := .agg #[.int .u64 l, .int .u64 le, .int .u64 s, .int .u64 v, .bool b]

set_option maxHeartbeats 400000 in
theorem new_any (w : World) :
    Calls Try.prog 7 #[] w fun e w' => e = .returned (rv 0 0 333000 166500 false) ∧ Below w.heap.size w w' := by
  go_enter Try.func7, Try.ntmps7
  go_wp2
  exact bodyPost_ret (v := rv 0 0 333000 166500 false) (by simp [results, Try.results7, go_sem, rv]) rfl ⟨rfl, (Below.refl _ _).alloc (Nat.le_refl _) _⟩

set_option maxHeartbeats 400000 in
theorem measure_first (l le s v t wt m : Int) (w : World) (h0 : 0 ≤ t) (h1 : t < 18446744073709551616) :
    Calls Try.prog 8 #[rv l le s v false, .int .u64 t, .int .u64 wt, .int .u64 m] w fun e w' => e = .returned (rv (min t Mx) (min t Mx) (min t Mx) (min t Mx / 2) true) ∧ Below w.heap.size w w' := by
  unfold rv Mx
  go_enter Try.func8, Try.ntmps8
  go_wp2
  exact bodyPost_ret (v := rv (min t Mx) (min t Mx) (min t Mx) (min t Mx / 2) true) (by simp [results, Try.results8, go_sem, rv, Mx]) rfl ⟨rfl, ((Below.refl _ _).alloc (Nat.le_refl _) _).alloc (by simp) _⟩

set_option maxHeartbeats 400000 in
theorem measure_yes (l le s v t wt m : Int) (w : World) (ht : 0 ≤ t) (h1 : t < 18446744073709551616) (hle : 0 ≤ le) (hle2 : le ≤ 1125899906842624)
   (hs : 0 ≤ s) (hs2 : s ≤ 1125899906842624) (hv : 0 ≤ v) (hv2 : v ≤ 1125899906842624) (hwt : 0 ≤ wt) (hm : 0 ≤ m) (hc : min wt m ≤ min t 1125899906842624) (hc2 : min le (min t 1125899906842624) ≤ min t 1125899906842624 - min wt m) :
    Calls Try.prog 8 #[rv l le s v true, .int .u64 t, .int .u64 wt, .int .u64 m] w fun e w' => e = .returned (rv (min t Mx) (min le (min t Mx)) (nSm s (min t Mx - min wt m)) (nVar s v (min t Mx - min wt m)) true) ∧ Below w.heap.size w w' := by
  unfold rv Mx nSm nVar
  go_enter Try.func8, Try.ntmps8
  go_wp2
  exact bodyPost_ret (v := rv (min t Mx) (min le (min t Mx)) (nSm s (min t Mx - min wt m)) (nVar s v (min t Mx - min wt m)) true) (by simp [results, Try.results8, go_sem, rv, Mx, nSm, nVar]) rfl ⟨rfl, ((Below.refl _ _).alloc (Nat.le_refl _) _).alloc (by simp) _⟩

set_option maxHeartbeats 400000 in
theorem measure_no1 (l le s v t wt m : Int) (w : World) (ht : 0 ≤ t) (h1 : t < 18446744073709551616) (hle : 0 ≤ le) (hle2 : le ≤ 1125899906842624)
   (hs : 0 ≤ s) (hs2 : s ≤ 1125899906842624) (hv : 0 ≤ v) (hv2 : v ≤ 1125899906842624) (hwt : 0 ≤ wt) (hm : 0 ≤ m) (hc : min t 1125899906842624 < min wt m) :
    Calls Try.prog 8 #[rv l le s v true, .int .u64 t, .int .u64 wt, .int .u64 m] w fun e w' => e = .returned (rv (min t Mx) (min le (min t Mx)) (nSm s (min t Mx)) (nVar s v (min t Mx)) true) ∧ Below w.heap.size w w' := by
  unfold rv Mx nSm nVar
  go_enter Try.func8, Try.ntmps8
  go_wp2
  exact bodyPost_ret (v := rv (min t Mx) (min le (min t Mx)) (nSm s (min t Mx)) (nVar s v (min t Mx)) true) (by simp [results, Try.results8, go_sem, rv, Mx, nSm, nVar]) rfl ⟨rfl, ((Below.refl _ _).alloc (Nat.le_refl _) _).alloc (by simp) _⟩

set_option maxHeartbeats 400000 in
theorem measure_no2 (l le s v t wt m : Int) (w : World) (ht : 0 ≤ t) (h1 : t < 18446744073709551616) (hle : 0 ≤ le) (hle2 : le ≤ 1125899906842624)
   (hs : 0 ≤ s) (hs2 : s ≤ 1125899906842624) (hv : 0 ≤ v) (hv2 : v ≤ 1125899906842624) (hwt : 0 ≤ wt) (hm : 0 ≤ m) (hc : min wt m ≤ min t 1125899906842624) (hc2 : min t 1125899906842624 - min wt m < min le (min t 1125899906842624)) :
    Calls Try.prog 8 #[rv l le s v true, .int .u64 t, .int .u64 wt, .int .u64 m] w fun e w' => e = .returned (rv (min t Mx) (min le (min t Mx)) (nSm s (min t Mx)) (nVar s v (min t Mx)) true) ∧ Below w.heap.size w w' := by
  unfold rv Mx nSm nVar
  go_enter Try.func8, Try.ntmps8
  go_wp2
  exact bodyPost_ret (v := rv (min t Mx) (min le (min t Mx)) (nSm s (min t Mx)) (nVar s v (min t Mx)) true) (by simp [results, Try.results8, go_sem, rv, Mx, nSm, nVar]) rfl ⟨rfl, ((Below.refl _ _).alloc (Nat.le_refl _) _).alloc (by simp) _⟩

/-- One sample more, behind the first. -/
theorem measure_later (l le s v t wt m : Int) (w : World) (ht : 0 ≤ t) (h1 : t < 18446744073709551616) (hle : 0 ≤ le) (hle2 : le ≤ 1125899906842624)
   (hs : 0 ≤ s) (hs2 : s ≤ 1125899906842624) (hv : 0 ≤ v) (hv2 : v ≤ 1125899906842624) (hwt : 0 ≤ wt) (hm : 0 ≤ m) :
    Calls Try.prog 8 #[rv l le s v true, .int .u64 t, .int .u64 wt, .int .u64 m] w fun e w' => e = .returned (rv (min t Mx) (min le (min t Mx)) (nSm s (smp (min le (min t Mx)) (min t Mx) wt m)) (nVar s v (smp (min le (min t Mx)) (min t Mx) wt m)) true) ∧ Below w.heap.size w w' := by
  by_cases hc : min wt m ≤ min t Mx
  · by_cases hc2 : min le (min t Mx) ≤ min t Mx - min wt m
    · rw [smp_yes hc hc2]; exact measure_yes l le s v t wt m w ht h1 hle hle2 hs hs2 hv hv2 hwt hm hc hc2
    · rw [smp_no2 hc2]; exact measure_no2 l le s v t wt m w ht h1 hle hle2 hs hs2 hv hv2 hwt hm hc (by unfold Mx at hc2; omega)
  · rw [smp_no1 hc]; exact measure_no1 l le s v t wt m w ht h1 hle hle2 hs hs2 hv hv2 hwt hm (by unfold Mx at hc; omega)

set_option maxHeartbeats 400000 in
theorem lost_any (l le s v : Int) (b : Bool) (w : World) (hl : 0 ≤ l) (hl2 : l ≤ 1125899906842624) (hs : 0 ≤ s) (hs2 : s ≤ 1125899906842624) :
    Calls Try.prog 9 #[rv l le s v b] w fun e w' => e = .returned (.int .u64 (max (9 * max s l / 8) 1000)) ∧ Below w.heap.size w w' := by
  unfold rv
  go_enter Try.func9, Try.ntmps9
  go_wp2
  go_ret
  exact ⟨rfl, (Below.refl _ _).alloc (Nat.le_refl _) _⟩

set_option maxHeartbeats 400000 in
theorem probe_any (l le s v x : Int) (b : Bool) (w : World) (hv : 0 ≤ v) (hv2 : v ≤ 1125899906842624) (hs : 0 ≤ s) (hs2 : s ≤ 1125899906842624) (hx : 0 ≤ x) (hx2 : x < 18446744073709551616) :
    Calls Try.prog 10 #[rv l le s v b, .int .u64 x] w fun e w' => e = .returned (.int .u64 (s + max (4 * v) 1000 + min x Mx)) ∧ Below w.heap.size w w' := by
  unfold rv Mx
  go_enter Try.func10, Try.ntmps10
  go_wp2
  go_ret
  exact ⟨rfl, (Below.refl _ _).alloc (Nat.le_refl _) _⟩

set_option maxHeartbeats 400000 in
theorem awake_any (w : World) :
    Calls Try.prog 6 #[] w fun e w' => e = .returned (.bool true) ∧ Below w.heap.size w w' := by
  go_enter Try.func6, Try.ntmps6
  go_wp2_with fail
  refine (new_any _).mono ?_
  rintro e w1 ⟨rfl, hb1⟩
  go_wp2_with fail
  have h := measure_first 0 0 333000 166500 800 0 0 w1 (by omega) (by omega)
  rw [show min (800 : Int) Mx = 800 from rfl] at h
  refine h.mono ?_
  clear h
  rintro e w2 ⟨rfl, hb2⟩
  go_wp2
  go_ret
  exact ⟨rfl, (hb1.trans (hb2.mono hb1.size)).alloc (Nat.le_trans hb1.size hb2.size) _⟩
/-- Block B of the world holds a time, and may be written. -/
def Box (w : World) (B : Nat) (l le s v : Int) (b : Bool) : Prop := w.heap[B]? = some (.cells #[.int .u64 l, .int .u64 le, .int .u64 s, .int .u64 v, .bool b] 26 (0, 0))

theorem Box.cells {w : World} {B : Nat} {l le s v : Int} {b : Bool} (h : Box w B l le s v b) :
    w.cell? ⟨B, 0, none⟩ = some (.int .u64 l) ∧ w.cell? ⟨B, 1, none⟩ = some (.int .u64 le) ∧ w.cell? ⟨B, 2, none⟩ = some (.int .u64 s) ∧ w.cell? ⟨B, 3, none⟩ = some (.int .u64 v) ∧ w.cell? ⟨B, 4, none⟩ = some (.bool b) ∧
    w.frozen? ⟨B, 0, none⟩ = false ∧ w.frozen? ⟨B, 1, none⟩ = false ∧ w.frozen? ⟨B, 2, none⟩ = false ∧ w.frozen? ⟨B, 3, none⟩ = false ∧ w.frozen? ⟨B, 4, none⟩ = false := by
  unfold Box at h
  simp [World.cell?, World.frozen?, h]

theorem Box.new (w : World) (l le s v : Int) (b : Bool) : Box (w.alloc (.cells #[.int .u64 l, .int .u64 le, .int .u64 s, .int .u64 v, .bool b] 26)) w.heap.size l le s v b := by
  show (w.heap.push _)[w.heap.size]? = _
  simp

theorem Box.below {w w' : World} {B : Nat} {l le s v : Int} {b : Bool} (h : Box w B l le s v b) (hb : Below w.heap.size w w') : Box w' B l le s v b := by
  unfold Box at *
  have hlt : B < w.heap.size := (Array.getElem?_eq_some_iff.1 h).1
  rw [hb.block B hlt]; exact h

theorem Box.set {w : World} {B : Nat} {l le s v l' le' s' v' : Int} {b b' : Bool} (h : Box w B l le s v b) :
    Box (((((w.setCell ⟨B, 0, none⟩ (.int .u64 l')).setCell ⟨B, 1, none⟩ (.int .u64 le')).setCell ⟨B, 2, none⟩ (.int .u64 s')).setCell ⟨B, 3, none⟩ (.int .u64 v')).setCell ⟨B, 4, none⟩ (.bool b')) B l' le' s' v' b' := by
  unfold Box at *
  simp [World.setCell, Array.getElem?_modify, h]

theorem below_set5 {B0 B : Nat} {a w : World} (h : Below B0 a w) (hB : B0 ≤ B) (x0 x1 x2 x3 x4 : Value) :
    Below B0 a (((((w.setCell ⟨B, 0, none⟩ x0).setCell ⟨B, 1, none⟩ x1).setCell ⟨B, 2, none⟩ x2).setCell ⟨B, 3, none⟩ x3).setCell ⟨B, 4, none⟩ x4) :=
  ((((h.setCell hB _).setCell hB _).setCell hB _).setCell hB _).setCell hB _

end Go.Proofs.Ytommnhomccjkkaa
