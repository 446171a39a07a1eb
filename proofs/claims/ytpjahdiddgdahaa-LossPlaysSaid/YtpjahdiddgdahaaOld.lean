/- Find's question of one packet: is it lost? -/
import Derived.Test.YtpjahdiddgdahaaTake
import Derived.Deep.QuietTactic
import Derived.BigQuiet
namespace Go.Proofs.Ytpjahdiddgdahaa
open Go.RowKit
set_option linter.unusedVariables false
set_option linter.unusedSimpArgs false

/-- Is a packet lost: the greatest that came is 'ak', the time is 'now', the wait is 'wait'? -/
def isLost (ak now wait : Int) (p : Pk) : Bool := !decide (ak < p.n) && (decide (3 ≤ ak - p.n) || (decide (p.a ≤ now) && decide (wait ≤ now - p.a)))

/-- A packet whose numbers are small enough. -/
structure Fits (p : Pk) : Prop where
  n0 : 0 ≤ p.n
  n1 : p.n ≤ 18446744073709551615
  a0 : 0 ≤ p.a
  a1 : p.a ≤ 1125899906842624

set_option maxHeartbeats 1000000 in
theorem lost_one (p : Pk) (b1 b2 b3 L : Nat) (ak now wait : Int) (b : Bool) (w : World) (hb1 : w.cell? ⟨b1, 0, none⟩ = some (.pointer (some ⟨L, 0, none⟩))) (hb2 : w.cell? ⟨b2, 0, none⟩ = some (.int .u64 now)) (hb3 : w.cell? ⟨b3, 0, none⟩ = some (.int .u64 wait))
    (hL : w.cell? ⟨L, 2, none⟩ = some (.int .u64 ak)) (l1 : b1 < w.heap.size) (l2 : b2 < w.heap.size) (l3 : b3 < w.heap.size) (l4 : L < w.heap.size) (hp : Fits p) (hak : 0 ≤ ak) (hak2 : ak ≤ 18446744073709551615) (hnow : 0 ≤ now) (hnow2 : now ≤ 18446744073709551615) (hw : 0 ≤ wait)
    (hb : isLost ak now wait p = b) :
    Calls Try.prog 26 #[pv p, .pointer (some ⟨b1, 0, none⟩), .pointer (some ⟨b2, 0, none⟩), .pointer (some ⟨b3, 0, none⟩)] w fun e w' => e = .returned (.bool b) ∧ Below w.heap.size w w' := by
  obtain ⟨p0, p1, p2, p3⟩ := hp
  unfold isLost at hb
  go_enter Try.func26, Try.ntmps26
  go_upto_region 1 with (fail)
  refine wp_gen (fun W => W.cell? ⟨b1, 0, none⟩ = some (.pointer (some ⟨L, 0, none⟩)) ∧ W.cell? ⟨b2, 0, none⟩ = some (.int .u64 now) ∧ W.cell? ⟨b3, 0, none⟩ = some (.int .u64 wait) ∧ W.cell? ⟨L, 2, none⟩ = some (.int .u64 ak) ∧ Pb W w.heap.size p ∧ Below w.heap.size w W)
    ⟨by rw [(grow (Below.refl _ _) _).cell (by exact l1)]; exact hb1, by rw [(grow (Below.refl _ _) _).cell (by exact l2)]; exact hb2, by rw [(grow (Below.refl _ _) _).cell (by exact l3)]; exact hb3, by rw [(grow (Below.refl _ _) _).cell (by exact l4)]; exact hL, Pb.new _ _, grow (Below.refl _ _) _⟩ ?_
  clear hb1 hb2 hb3 hL
  rintro W ⟨c1, c2, c3, c4, hpb, hbw⟩
  obtain ⟨d0, d1, d2, d3, d4⟩ := hpb.cells
  clear hpb
  have Hbw := Lib.hid hbw
  clear hbw
  by_cases h1 : ak < p.n
  · have hd : b = false := by rw [← hb]; simp [h1]
    subst hd
    clear hb
    go_quiet (fail)
    go_wp2_with fail
    go_ret
    exact ⟨rfl, below_drewN Hbw.out _⟩
  · have h2 : p.n ≤ ak := by omega
    have i1 : IntKind.u64.wrap (ak - p.n) = ak - p.n := IntWalk.u64_in _ (by omega)
    by_cases h3 : 3 ≤ ak - p.n
    · have hd : b = true := by rw [← hb]; simp [h1, h3]
      subst hd
      have t3 : decide (3 ≤ ak - p.n) = true := decide_eq_true h3
      clear hb
      go_quiet (fail)
      go_wp2_with fail
      go_quiet (fail)
      go_wp2_with fail
      go_ret
      exact ⟨rfl, below_drewN (below_drewN Hbw.out _) _⟩
    · have t3 : decide (3 ≤ ak - p.n) = false := decide_eq_false h3
      by_cases h4 : p.a ≤ now
      · have t4 : decide (p.a ≤ now) = true := decide_eq_true h4
        have hd : b = decide (wait ≤ now - p.a) := by rw [← hb]; simp [h1, h3, h4]
        subst hd
        have i2 : IntKind.u64.wrap (now - p.a) = now - p.a := IntWalk.u64_in _ (by omega)
        clear hb
        go_quiet (fail)
        go_wp2_with fail
        go_quiet (fail)
        go_wp2_with fail
        go_ret
        exact ⟨rfl, below_drewN (below_drewN Hbw.out _) _⟩
      · have t4 : decide (p.a ≤ now) = false := decide_eq_false h4
        have hd : b = false := by rw [← hb]; simp [h3, h4]
        subst hd
        clear hb
        go_quiet (fail)
        go_wp2_with fail
        go_quiet (fail)
        go_wp2_with fail
        go_ret
        exact ⟨rfl, below_drewN (below_drewN Hbw.out _) _⟩
end Go.Proofs.Ytpjahdiddgdahaa
