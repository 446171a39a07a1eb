/- Sent, of a packet that does not rise: an order error, and nothing is changed. -/
import Derived.Test.YtpjahdiddgdahaaSent
import Derived.Deep.QuietTactic
import Derived.BigQuiet
namespace Go.Proofs.Ytpjahdiddgdahaa
open Go.RowKit
set_option linter.unusedVariables false
set_option linter.unusedSimpArgs false

set_option maxHeartbeats 1000000 in
theorem sent_low (L : Nat) (v : Value) (so wt : Bool) (ak la ls : Int) (qs : List Pk) (lst p : Pk) (w : World) (hl : Led w L v (qs ++ [lst]) so ak wt la ls) (hlow : p.n ≤ lst.n) (hmany : qs.length + 1 ≤ 256) :
    Calls Try.prog 8 #[.pointer (some ⟨L, 0, none⟩), pv p] w fun e w' => e = .returned (.int .i64 10) ∧ Below w.heap.size w w' := by
  obtain ⟨a, cap, hv, hcs⟩ := hl.2.shape
  obtain ⟨g, rfl, hg, hgl, hgo, hlast, -⟩ := hcs qs.length lst (by simp)
  have hv : v = .slice (some ⟨g, 0, none⟩) (qs.length + 1) cap := by rw [hv, List.length_append]; rfl
  subst hv
  clear hcs
  go_enter Try.func8, Try.ntmps8
  go_upto_region 1 with (fail)
  refine wp_gen (fun W => Led W L (.slice (some ⟨g, 0, none⟩) (qs.length + 1) cap) (qs ++ [lst]) so ak wt la ls ∧ Pb W w.heap.size p ∧ Below w.heap.size w W ∧ W.cell? ⟨g, qs.length * 5, none⟩ = some (.int .u64 lst.n)) ⟨hl.below (grow (Below.refl _ _) _), Pb.new _ _, grow (Below.refl _ _) _, by rw [(grow (Below.refl _ _) _).cell (by exact hgl)]; exact hlast⟩ ?_
  rintro w1 ⟨hl1, hp1, hb1, hlst⟩
  clear hlast hgl hg hgo
  obtain ⟨c0, c1, c2, c3, c4, c5, f0, f1, f2, f3, f4, f5⟩ := hl1.cells
  obtain ⟨d0, d1, d2, d3, d4⟩ := hp1.cells
  have t1 : decide ((0 : Int) < (qs.length : Int) + 1) = true := decide_eq_true (by omega)
  have t2 : decide (p.n ≤ lst.n) = true := decide_eq_true (by omega)
  have i1 : (0 : Int) ≤ (qs.length : Int) := by omega
  have i2 : IntKind.i64.wrap ((qs.length : Int) + 1 - 1) = (qs.length : Int) := by rw [IntWalk.i64_in _ (by omega)]; omega
  go_wp2_with fail
  go_quiet (fail)
  go_wp2_with fail
  go_ret
  exact ⟨rfl, below_drewN hb1 _⟩

set_option maxHeartbeats 1000000 in
theorem sent_old (L : Nat) (v : Value) (wt : Bool) (ak la ls : Int) (qs : List Pk) (lst p : Pk) (w : World) (hl : Led w L v (qs ++ [lst]) true ak wt la ls) (hlow : p.n ≤ ak) (hrise : lst.n < p.n) (hmany : qs.length + 1 ≤ 256) :
    Calls Try.prog 8 #[.pointer (some ⟨L, 0, none⟩), pv p] w fun e w' => e = .returned (.int .i64 10) ∧ Below w.heap.size w w' := by
  obtain ⟨a, cap, hv, hcs⟩ := hl.2.shape
  obtain ⟨g, rfl, hg, hgl, hgo, hlast, -⟩ := hcs qs.length lst (by simp)
  have hv : v = .slice (some ⟨g, 0, none⟩) (qs.length + 1) cap := by rw [hv, List.length_append]; rfl
  subst hv
  clear hcs
  go_enter Try.func8, Try.ntmps8
  go_upto_region 1 with (fail)
  refine wp_gen (fun W => Led W L (.slice (some ⟨g, 0, none⟩) (qs.length + 1) cap) (qs ++ [lst]) true ak wt la ls ∧ Pb W w.heap.size p ∧ Below w.heap.size w W ∧ W.cell? ⟨g, qs.length * 5, none⟩ = some (.int .u64 lst.n)) ⟨hl.below (grow (Below.refl _ _) _), Pb.new _ _, grow (Below.refl _ _) _, by rw [(grow (Below.refl _ _) _).cell (by exact hgl)]; exact hlast⟩ ?_
  rintro w1 ⟨hl1, hp1, hb1, hlst⟩
  clear hlast hgl hg hgo
  obtain ⟨c0, c1, c2, c3, c4, c5, f0, f1, f2, f3, f4, f5⟩ := hl1.cells
  obtain ⟨d0, d1, d2, d3, d4⟩ := hp1.cells
  have t1 : decide ((0 : Int) < (qs.length : Int) + 1) = true := decide_eq_true (by omega)
  have t2 : decide (p.n ≤ lst.n) = false := decide_eq_false (by omega)
  have t3 : decide (p.n ≤ ak) = true := decide_eq_true hlow
  have i1 : (0 : Int) ≤ (qs.length : Int) := by omega
  have i2 : IntKind.i64.wrap ((qs.length : Int) + 1 - 1) = (qs.length : Int) := by rw [IntWalk.i64_in _ (by omega)]; omega
  go_wp2_with fail
  go_quiet (fail)
  go_wp2_with fail
  go_quiet (fail)
  go_wp2_with fail
  go_ret
  exact ⟨rfl, below_drewN (below_drewN hb1 _) _⟩

set_option maxHeartbeats 1000000 in
theorem sent_old0 (L : Nat) (v : Value) (wt : Bool) (ak la ls : Int) (p : Pk) (w : World) (hl : Led w L v [] true ak wt la ls) (hlow : p.n ≤ ak) :
    Calls Try.prog 8 #[.pointer (some ⟨L, 0, none⟩), pv p] w fun e w' => e = .returned (.int .i64 10) ∧ Below w.heap.size w w' := by
  obtain ⟨a, cap, hv, -⟩ := hl.2.shape
  simp only [List.length_nil] at hv
  subst hv
  go_enter Try.func8, Try.ntmps8
  go_upto_region 1 with (fail)
  refine wp_gen (fun W => Led W L (.slice a 0 cap) [] true ak wt la ls ∧ Pb W w.heap.size p ∧ Below w.heap.size w W) ⟨hl.below (grow (Below.refl _ _) _), Pb.new _ _, grow (Below.refl _ _) _⟩ ?_
  rintro w1 ⟨hl1, hp1, hb1⟩
  obtain ⟨c0, c1, c2, c3, c4, c5, f0, f1, f2, f3, f4, f5⟩ := hl1.cells
  obtain ⟨d0, d1, d2, d3, d4⟩ := hp1.cells
  have t3 : decide (p.n ≤ ak) = true := decide_eq_true hlow
  go_wp2_with fail
  go_quiet (fail)
  go_wp2_with fail
  go_quiet (fail)
  go_wp2_with fail
  go_ret
  exact ⟨rfl, below_drewN (below_drewN hb1 _) _⟩

/-- Is a packet's number too low? -/
def lowB (ps : List Pk) (so : Bool) (ak : Int) (p : Pk) : Prop := (∃ qs lst, ps = qs ++ [lst] ∧ p.n ≤ lst.n) ∨ (so = true ∧ p.n ≤ ak)
theorem sent_bad (L : Nat) (v : Value) (so wt : Bool) (ak la ls : Int) (ps : List Pk) (p : Pk) (w : World) (hl : Led w L v ps so ak wt la ls) (hlow : lowB ps so ak p) (hmany : ps.length ≤ 256) :
    Calls Try.prog 8 #[.pointer (some ⟨L, 0, none⟩), pv p] w fun e w' => e = .returned (.int .i64 10) ∧ Below w.heap.size w w' := by
  rcases List.eq_nil_or_concat ps with h | ⟨qs, lst, h⟩
  · subst h
    rcases hlow with ⟨qs, lst, h, -⟩ | ⟨rfl, h⟩
    · simp at h
    · exact sent_old0 L v wt ak la ls p w hl h
  · rw [List.concat_eq_append] at h
    subst h
    have hm : qs.length + 1 ≤ 256 := by simpa using hmany
    by_cases h1 : p.n ≤ lst.n
    · exact sent_low L v so wt ak la ls qs lst p w hl h1 hm
    · rcases hlow with ⟨qs', lst', h, h2⟩ | ⟨rfl, h⟩
      · have := (List.append_inj' h rfl).2
        simp at this
        subst this
        exact absurd h2 h1
      · exact sent_old L v wt ak la ls qs lst p w hl h (by omega) hm
end Go.Proofs.Ytpjahdiddgdahaa
