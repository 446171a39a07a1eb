/- The plain mathematics of the round-trip time: one more sample, what it does to the smooth time and to its variation. No program stands here. -/
namespace Go.Proofs.Ytommnhomccjkkaa

/-- The most that a time counts. -/
def Mx : Int := 1125899906842624
/-- The sample: what was waited is taken off where the rest is not below the least. -/
def smp (le t wt m : Int) : Int := if min wt m ≤ t ∧ le ≤ t - min wt m then t - min wt m else t
def nVar (s v c : Int) : Int := (3 * v + (max s c - min s c)) / 4
def nSm (s c : Int) : Int := (7 * s + c) / 8

theorem smp_lo (le t wt m : Int) (ht : 0 ≤ t) : 0 ≤ smp le t wt m := by unfold smp; split <;> omega
theorem smp_hi (le t wt m : Int) (h : 0 ≤ wt) (h' : 0 ≤ m) : smp le t wt m ≤ t := by unfold smp; split <;> omega
theorem smp_zero (le t : Int) : smp le t 0 0 = t := by unfold smp; split <;> omega
theorem smp_yes {le t wt m : Int} (h1 : min wt m ≤ t) (h2 : le ≤ t - min wt m) : smp le t wt m = t - min wt m := by unfold smp; rw [if_pos ⟨h1, h2⟩]
theorem smp_no1 {le t wt m : Int} (h1 : ¬ min wt m ≤ t) : smp le t wt m = t := by unfold smp; rw [if_neg (fun h => h1 h.1)]
theorem smp_no2 {le t wt m : Int} (h2 : ¬ le ≤ t - min wt m) : smp le t wt m = t := by unfold smp; rw [if_neg (fun h => h2 h.2)]
theorem nVar_lo (s v c : Int) (hv : 0 ≤ v) : 0 ≤ nVar s v c := by unfold nVar; omega
theorem nVar_hi (s v c M : Int) (h1 : 0 ≤ s) (h2 : s ≤ M) (hc : 0 ≤ c) (hc2 : c ≤ M) (hv : v ≤ M) : nVar s v c ≤ M := by unfold nVar; omega
theorem nSm_lo (s c : Int) (hs : 0 ≤ s) (hc : 0 ≤ c) : 0 ≤ nSm s c := by unfold nSm; omega
theorem nSm_hi (s c M : Int) (hs : s ≤ M) (hc : c ≤ M) : nSm s c ≤ M := by unfold nSm; omega
end Go.Proofs.Ytommnhomccjkkaa
