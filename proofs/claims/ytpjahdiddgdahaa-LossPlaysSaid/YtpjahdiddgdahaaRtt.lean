/- What the calls of package rtt do that the laws of this layer lean on: New, Measure, Lost. -/
import Derived.Test.YtpjahdiddgdahaaBase
namespace Go.Proofs.Ytpjahdiddgdahaa
open Go.RowKit
set_option linter.unusedVariables false

/-- The most that a time counts. -/
def Mx : Int := 1125899906842624
/-- The sample: what was waited is taken off where the rest is not below the least. -/
def smp (le t wt m : Int) : Int := if min wt m ≤ t ∧ le ≤ t - min wt m then t - min wt m else t
def nVar (s v c : Int) : Int := (3 * v + (max s c - min s c)) / 4
def nSm (s c : Int) : Int := (7 * s + c) / 8

theorem smp_lo (le t wt m : Int) (ht : 0 ≤ t) : 0 ≤ smp le t wt m := by unfold smp; split <;> omega
theorem smp_hi (le t wt m : Int) (h : 0 ≤ wt) (h' : 0 ≤ m) : smp le t wt m ≤ t := by unfold smp; split <;> omega
theorem smp_zero (le t : Int) : smp le t 0 0 = t := by unfold smp; split <;> omega
theorem smp_yes {le t wt m : Int} (h1 : min wt m ≤ t) (h2 : le ≤ t - min wt m) : smp le t wt m = t - min wt m := by unfold smp; rw [if_pos ⟨h1, h2⟩]
theorem smp_no1 {le t wt m : Int} (h1 : ¬ min wt m ≤ t) : smp le t wt m = t := by unfold smp; rw [if_neg (fun h => h1 h.1)]
theorem smp_no2 {le t wt m : Int} (h2 : ¬ le ≤ t - min wt m) : smp le t wt m = t := by unfold smp; rw [if_neg (fun h => h2 h.2)]
theorem nVar_lo (s v c : Int) (hv : 0 ≤ v) : 0 ≤ nVar s v c := by unfold nVar; omega
theorem nVar_hi (s v c M : Int) (h1 : 0 ≤ s) (h2 : s ≤ M) (hc : 0 ≤ c) (hc2 : c ≤ M) (hv : v ≤ M) : nVar s v c ≤ M := by unfold nVar; omega
theorem nSm_lo (s c : Int) (hs : 0 ≤ s) (hc : 0 ≤ c) : 0 ≤ nSm s c := by unfold nSm; omega
theorem nSm_hi (s c M : Int) (hs : s ≤ M) (hc : c ≤ M) : nSm s c ≤ M := by unfold nSm; omega
abbrev rv (l le s v : Int) (b : Bool) : Value := .agg #[.int .u64 l, .int .u64 le, .int .u64 s, .int .u64 v, .bool b]

set_option maxHeartbeats 400000 in
theorem rtt_new (w : World) :
    Calls Try.prog 9 #[] w fun e w' => e = .returned (rv 0 0 333000 166500 false) ∧ Below w.heap.size w w' := by
  go_enter Try.func9, Try.ntmps9
  go_wp2
  exact bodyPost_ret (v := rv 0 0 333000 166500 false) (by simp [results, Try.results9, go_sem, rv]) rfl ⟨rfl, (Below.refl _ _).alloc (Nat.le_refl _) _⟩

set_option maxHeartbeats 400000 in
theorem measure_first (l le s v t wt m : Int) (w : World) (h0 : 0 ≤ t) (h1 : t < 18446744073709551616) :
    Calls Try.prog 14 #[rv l le s v false, .int .u64 t, .int .u64 wt, .int .u64 m] w fun e w' => e = .returned (rv (min t Mx) (min t Mx) (min t Mx) (min t Mx / 2) true) ∧ Below w.heap.size w w' := by
  unfold rv Mx
  go_enter Try.func14, Try.ntmps14
  go_wp2
  exact bodyPost_ret (v := rv (min t Mx) (min t Mx) (min t Mx) (min t Mx / 2) true) (by simp [results, Try.results14, go_sem, rv, Mx]) rfl ⟨rfl, ((Below.refl _ _).alloc (Nat.le_refl _) _).alloc (by simp) _⟩

set_option maxHeartbeats 400000 in
theorem measure_yes (l le s v t wt m : Int) (w : World) (ht : 0 ≤ t) (h1 : t < 18446744073709551616) (hle : 0 ≤ le) (hle2 : le ≤ 1125899906842624)
   (hs : 0 ≤ s) (hs2 : s ≤ 1125899906842624) (hv : 0 ≤ v) (hv2 : v ≤ 1125899906842624) (hwt : 0 ≤ wt) (hm : 0 ≤ m) (hc : min wt m ≤ min t 1125899906842624) (hc2 : min le (min t 1125899906842624) ≤ min t 1125899906842624 - min wt m) :
    Calls Try.prog 14 #[rv l le s v true, .int .u64 t, .int .u64 wt, .int .u64 m] w fun e w' => e = .returned (rv (min t Mx) (min le (min t Mx)) (nSm s (min t Mx - min wt m)) (nVar s v (min t Mx - min wt m)) true) ∧ Below w.heap.size w w' := by
  unfold rv Mx nSm nVar
  go_enter Try.func14, Try.ntmps14
  go_wp2
  exact bodyPost_ret (v := rv (min t Mx) (min le (min t Mx)) (nSm s (min t Mx - min wt m)) (nVar s v (min t Mx - min wt m)) true) (by simp [results, Try.results14, go_sem, rv, Mx, nSm, nVar]) rfl ⟨rfl, ((Below.refl _ _).alloc (Nat.le_refl _) _).alloc (by simp) _⟩

set_option maxHeartbeats 400000 in
theorem measure_no1 (l le s v t wt m : Int) (w : World) (ht : 0 ≤ t) (h1 : t < 18446744073709551616) (hle : 0 ≤ le) (hle2 : le ≤ 1125899906842624)
   (hs : 0 ≤ s) (hs2 : s ≤ 1125899906842624) (hv : 0 ≤ v) (hv2 : v ≤ 1125899906842624) (hwt : 0 ≤ wt) (hm : 0 ≤ m) (hc : min t 1125899906842624 < min wt m) :
    Calls Try.prog 14 #[rv l le s v true, .int .u64 t, .int .u64 wt, .int .u64 m] w fun e w' => e = .returned (rv (min t Mx) (min le (min t Mx)) (nSm s (min t Mx)) (nVar s v (min t Mx)) true) ∧ Below w.heap.size w w' := by
  unfold rv Mx nSm nVar
  go_enter Try.func14, Try.ntmps14
  go_wp2
  exact bodyPost_ret (v := rv (min t Mx) (min le (min t Mx)) (nSm s (min t Mx)) (nVar s v (min t Mx)) true) (by simp [results, Try.results14, go_sem, rv, Mx, nSm, nVar]) rfl ⟨rfl, ((Below.refl _ _).alloc (Nat.le_refl _) _).alloc (by simp) _⟩

set_option maxHeartbeats 400000 in
theorem measure_no2 (l le s v t wt m : Int) (w : World) (ht : 0 ≤ t) (h1 : t < 18446744073709551616) (hle : 0 ≤ le) (hle2 : le ≤ 1125899906842624)
   (hs : 0 ≤ s) (hs2 : s ≤ 1125899906842624) (hv : 0 ≤ v) (hv2 : v ≤ 1125899906842624) (hwt : 0 ≤ wt) (hm : 0 ≤ m) (hc : min wt m ≤ min t 1125899906842624) (hc2 : min t 1125899906842624 - min wt m < min le (min t 1125899906842624)) :
    Calls Try.prog 14 #[rv l le s v true, .int .u64 t, .int .u64 wt, .int .u64 m] w fun e w' => e = .returned (rv (min t Mx) (min le (min t Mx)) (nSm s (min t Mx)) (nVar s v (min t Mx)) true) ∧ Below w.heap.size w w' := by
  unfold rv Mx nSm nVar
  go_enter Try.func14, Try.ntmps14
  go_wp2
  exact bodyPost_ret (v := rv (min t Mx) (min le (min t Mx)) (nSm s (min t Mx)) (nVar s v (min t Mx)) true) (by simp [results, Try.results14, go_sem, rv, Mx, nSm, nVar]) rfl ⟨rfl, ((Below.refl _ _).alloc (Nat.le_refl _) _).alloc (by simp) _⟩

/-- One sample more, behind the first. -/
theorem measure_later (l le s v t wt m : Int) (w : World) (ht : 0 ≤ t) (h1 : t < 18446744073709551616) (hle : 0 ≤ le) (hle2 : le ≤ 1125899906842624)
   (hs : 0 ≤ s) (hs2 : s ≤ 1125899906842624) (hv : 0 ≤ v) (hv2 : v ≤ 1125899906842624) (hwt : 0 ≤ wt) (hm : 0 ≤ m) :
    Calls Try.prog 14 #[rv l le s v true, .int .u64 t, .int .u64 wt, .int .u64 m] w fun e w' => e = .returned (rv (min t Mx) (min le (min t Mx)) (nSm s (smp (min le (min t Mx)) (min t Mx) wt m)) (nVar s v (smp (min le (min t Mx)) (min t Mx) wt m)) true) ∧ Below w.heap.size w w' := by
  by_cases hc : min wt m ≤ min t Mx
  · by_cases hc2 : min le (min t Mx) ≤ min t Mx - min wt m
    · rw [smp_yes hc hc2]; exact measure_yes l le s v t wt m w ht h1 hle hle2 hs hs2 hv hv2 hwt hm hc hc2
    · rw [smp_no2 hc2]; exact measure_no2 l le s v t wt m w ht h1 hle hle2 hs hs2 hv hv2 hwt hm hc (by unfold Mx at hc2; omega)
  · rw [smp_no1 hc]; exact measure_no1 l le s v t wt m w ht h1 hle hle2 hs hs2 hv hv2 hwt hm (by unfold Mx at hc; omega)

set_option maxHeartbeats 400000 in
theorem rtt_lost (l le s v : Int) (b : Bool) (w : World) (hl : 0 ≤ l) (hl2 : l ≤ 1125899906842624) (hs : 0 ≤ s) (hs2 : s ≤ 1125899906842624) :
    Calls Try.prog 13 #[rv l le s v b] w fun e w' => e = .returned (.int .u64 (max (9 * max s l / 8) 1000)) ∧ Below w.heap.size w w' := by
  unfold rv
  go_enter Try.func13, Try.ntmps13
  go_wp2
  go_ret
  exact ⟨rfl, (Below.refl _ _).alloc (Nat.le_refl _) _⟩

end Go.Proofs.Ytpjahdiddgdahaa
