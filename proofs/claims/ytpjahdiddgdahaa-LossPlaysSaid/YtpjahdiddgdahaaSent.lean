/- New, Full, Sent: a ledger, and one packet more. -/
import Derived.Test.YtpjahdiddgdahaaBase
import Derived.Deep.QuietTactic
import Derived.BigQuiet
import Derived.Deep.Cut
import Derived.StillTailTactics
import Derived.Deep.DeepMust
import Derived.Deep.RegionLaw
import Derived.Deep.DrawnRows
import Derived.BigRegion
namespace Go.Proofs.Ytpjahdiddgdahaa
open Go.RowKit
set_option linter.unusedVariables false
set_option linter.unusedSimpArgs false
attribute [local go_sem ↓] Go.wp_at_zero Go.wp_at_succ

set_option maxHeartbeats 400000 in
theorem new_any (w : World) :
    Calls Try.prog 7 #[] w fun e w' => e = .returned (.pointer (some ⟨w.heap.size, 0, none⟩)) ∧ w' = w.alloc (.cells #[.slice none 0 0, .bool false, .int .u64 0, .bool false, .int .u64 0, .int .u64 0] 59) := by
  go_enter Try.func7, Try.ntmps7
  go_wp2
  go_ret
  exact ⟨rfl, rfl⟩
theorem new_led (w : World) : Led (w.alloc (.cells #[.slice none 0 0, .bool false, .int .u64 0, .bool false, .int .u64 0, .int .u64 0] 59)) w.heap.size (.slice none 0 0) [] false 0 false 0 0 := by
  refine ⟨?_, Rw.nil _ _⟩
  show (w.heap.push _)[w.heap.size]? = _
  simp

set_option maxHeartbeats 400000 in
theorem full_no (L : Nat) (a : Option Addr) (n cap : Nat) (w : World) (hc : w.cell? ⟨L, 0, none⟩ = some (.slice a n cap)) (hn : n < 256) :
    Calls Try.prog 21 #[.pointer (some ⟨L, 0, none⟩)] w fun e w' => e = .returned (.bool false) ∧ w' = w := by
  have hn1 : decide ((256 : Int) ≤ (n : Int)) = false := decide_eq_false (by omega)
  go_enter Try.func21, Try.ntmps21
  go_wp2
  go_ret
  exact ⟨rfl, rfl⟩

/-- What Sent leaves: the packet behind the others. -/
def SentPost (w : World) (L : Nat) (v : Value) (ps : List Pk) (so : Bool) (ak : Int) (wt : Bool) (la ls : Int) (e : Ending) (w' : World) : Prop :=
  ∃ v', e = .returned (.int .i64 0) ∧ Led w' L v' ps so ak wt la ls ∧ Kp w w' (Blk L v) ∧ (v'.ownBlock = v.ownBlock ∨ ∀ k, v'.ownBlock = some k → w.heap.size ≤ k)

set_option maxHeartbeats 1000000 in
theorem sent_first (L : Nat) (v : Value) (so wt : Bool) (ak la ls : Int) (p : Pk) (w : World) (hl : Led w L v [] so ak wt la ls) (hak : so = false ∨ ak < p.n) (ls' : Int) (hls : Hid (ls' = if p.e && p.f then p.a else ls)) :
    Calls Try.prog 8 #[.pointer (some ⟨L, 0, none⟩), pv p] w (SentPost w L v [p] so ak wt la ls') := by
  obtain ⟨a, cap, hv, -⟩ := hl.2.shape
  simp only [List.length_nil] at hv
  subst hv
  have hlL := hl.lt
  have hlw : ∀ k, (Value.slice a 0 cap).ownBlock = some k → k < w.heap.size := fun k hk => (hl.2.lt k hk).2
  go_enter Try.func8, Try.ntmps8
  go_upto_region 1 with (fail)
  refine wp_gen (fun W => Led W L (.slice a 0 cap) [] so ak wt la ls ∧ Pb W w.heap.size p ∧ Below w.heap.size w W) ⟨hl.below (grow (Below.refl _ _) _), Pb.new _ _, grow (Below.refl _ _) _⟩ ?_
  rintro w1 ⟨hl1, hp1, hb1⟩
  obtain ⟨c0, c1, c2, c3, c4, c5, f0, f1, f2, f3, f4, f5⟩ := hl1.cells
  obtain ⟨d0, d1, d2, d3, d4⟩ := hp1.cells
  go_wp2_with fail
  go_quiet (fail)
  go_wp2_with fail
  cases so
  · skip
    go_quiet (fail)
    go_wp2_with fail
    refine (full_no L a 0 cap _ (by first | exact c0 | (simpa using c0)) (by omega)).mono ?_
    rintro e wf ⟨rfl, rfl⟩
    go_upto_region 10 with (fail)
    refine wp_gen (fun W => Led W L (.slice a 0 cap) ([] : List Pk) false ak wt la ls ∧ Pb W w.heap.size p ∧ Below w.heap.size w W) ⟨by exact hl1, by exact hp1, by exact ⟨hb1.os, hb1.tape, hb1.output, hb1.size, hb1.block⟩⟩ ?_
    clear c0 c1 c2 c3 c4 c5 f0 f1 f2 f3 f4 f5 d0 d1 d2 d3 d4 hl1 hp1 hb1 w1
    rintro w1 ⟨hl1, hp1, hb1⟩
    obtain ⟨c0, c1, c2, c3, c4, c5, f0, f1, f2, f3, f4, f5⟩ := hl1.cells
    obtain ⟨d0, d1, d2, d3, d4⟩ := hp1.cells
    have hlen0 : List.length ([] : List Pk) ≤ 1000 := by simp <;> omega
    have hL1 := hl1.lt
    have q1 := Lib.hid (show Rw (w1.alloc (.cells #[.int .u64 p.n, .int .u64 p.a, .int .u64 p.s, .bool p.e, .bool p.f] 31)).drew (L + 1) (.slice a 0 cap) ([] : List Pk) from hl1.2.below (grow (Below.refl _ _) _).drew)
    have q2 := Lib.hid (show Pb (w1.alloc (.cells #[.int .u64 p.n, .int .u64 p.a, .int .u64 p.s, .bool p.e, .bool p.f] 31)).drew w1.heap.size p from Pb.new _ _)
    have q3 := Lib.hid (show L + 1 ≤ (w1.alloc (.cells #[.int .u64 p.n, .int .u64 p.a, .int .u64 p.s, .bool p.e, .bool p.f] 31)).drew.heap.size from by show L + 1 ≤ (w1.alloc _).heap.size; simp; omega)
    have q4 := Lib.hid (show ∀ w5, Kp (w1.alloc (.cells #[.int .u64 p.n, .int .u64 p.a, .int .u64 p.s, .bool p.e, .bool p.f] 31)).drew w5 (fun k => (Value.slice a 0 cap).ownBlock = some k) → w5.cell? ⟨L, 0, none⟩ = some (.slice a 0 cap) ∧ w5.frozen? ⟨L, 0, none⟩ = false from fun w5 h5 => (hl1.grown h5).2)
    have q5 := Lib.hid (show ∀ (gg cap2 : Nat) (w5 : World), Rw w5 (L + 1) (.slice (some ⟨gg, 0, none⟩) (List.length ([] : List Pk) + 1) cap2) (([] : List Pk) ++ [p]) → Kp (w1.alloc (.cells #[.int .u64 p.n, .int .u64 p.a, .int .u64 p.s, .bool p.e, .bool p.f] 31)).drew w5 (fun k => (Value.slice a 0 cap).ownBlock = some k) → ((Value.slice a 0 cap).ownBlock = some gg ∨ gg = (w1.alloc (.cells #[.int .u64 p.n, .int .u64 p.a, .int .u64 p.s, .bool p.e, .bool p.f] 31)).drew.heap.size) → _ from fun gg cap2 w5 h5 h6 h7 => hl1.pushed hlw hb1 hp1 h6 h5 hlL (fun g' hg' => by simp [Value.ownBlock] at hg'; subst hg'; rcases h7 with h7 | h7; exact .inl h7; exact .inr (by rw [h7]; show (w1.alloc _).heap.size = _; simp)))
    have Hl := Lib.hid hl1
    have Hp := Lib.hid hp1
    have Hn := Lib.hid hlen0
    clear hl1 hp1 hlen0 hak hl
    go_region_law (first | ((refine step_append_pk (by rfl) (.tmp 48) (.tmp 50) (by rfl) (L + 1) (.slice a 0 cap) ([] : List Pk) (by simp [Act.eval, Act.put]) q1.out w1.heap.size 1 p (by simp [Act.eval, Act.put]) q2.out Hn.out q3.out ?_; intro g2 cap2 w5 hr5 hk5 hb5; obtain ⟨e0, e1⟩ := q4.out w5 hk5; have q6 := Lib.hid (q5.out g2 cap2 w5 hr5 hk5 hb5); clear hr5 hk5 hb5)))
    all_goals
      refine ex_gen (fun W => Led W L (.slice (some ⟨g2, 0, none⟩) (0 + 1) cap2) (([] : List Pk) ++ [p]) false ak wt la ls ∧ Pb W w.heap.size p ∧ Kp w W (Blk L (.slice a 0 cap)) ∧ ((Value.slice (some ⟨g2, 0, none⟩) (0 + 1) cap2).ownBlock = (Value.slice a 0 cap).ownBlock ∨ ∀ k, (Value.slice (some ⟨g2, 0, none⟩) (0 + 1) cap2).ownBlock = some k → w.heap.size ≤ k)) (by have h6 := q6.out; simp only [List.length_append, List.length_cons, List.length_nil, Nat.zero_add] at h6; exact h6) ?_
      clear e0 e1 q6
      rintro w6 ⟨hl6, hp6, hk6', ho6⟩
      obtain ⟨c0, c1, c2, c3, c4, c5, f0, f1, f2, f3, f4, f5⟩ := hl6.cells
      obtain ⟨d0, d1, d2, d3, d4⟩ := hp6.cells
      have Ho := Lib.hid ho6
      clear ho6
      cases he : p.e
      · rw [he] at d3
        have hx : ls' = ls := by rw [hls.out, he]; rfl
        clear he
        go_wp2_with fail
        go_ret
        exact ⟨_, rfl, by rw [hx]; exact hl6, hk6', Ho.out⟩
      · cases hf : p.f
        · rw [he] at d3
          rw [hf] at d4
          have hx : ls' = ls := by rw [hls.out, he, hf]; rfl
          clear he hf
          go_wp2_with fail
          go_ret
          exact ⟨_, rfl, by rw [hx]; exact hl6, hk6', Ho.out⟩
        · rw [he] at d3
          rw [hf] at d4
          have hx : ls' = p.a := by rw [hls.out, he, hf]; rfl
          clear he hf
          have Hx := Lib.hid hx
          clear hx
          go_wp2_with fail
          go_ret
          exact ⟨_, rfl, by rw [Hx.out]; exact hl6.set_last _, hk6'.set _ (.inl rfl) _, Ho.out⟩
  · have hk6 : decide (p.n ≤ ak) = false := decide_eq_false (by rcases hak with h | h; (exact absurd h (by decide)); omega)
    go_quiet (fail)
    go_wp2_with fail
    refine (full_no L a 0 cap _ (by first | exact c0 | (simpa using c0)) (by omega)).mono ?_
    rintro e wf ⟨rfl, rfl⟩
    go_upto_region 10 with (fail)
    refine wp_gen (fun W => Led W L (.slice a 0 cap) ([] : List Pk) true ak wt la ls ∧ Pb W w.heap.size p ∧ Below w.heap.size w W) ⟨by exact hl1, by exact hp1, by exact ⟨hb1.os, hb1.tape, hb1.output, hb1.size, hb1.block⟩⟩ ?_
    clear c0 c1 c2 c3 c4 c5 f0 f1 f2 f3 f4 f5 d0 d1 d2 d3 d4 hl1 hp1 hb1 w1
    rintro w1 ⟨hl1, hp1, hb1⟩
    obtain ⟨c0, c1, c2, c3, c4, c5, f0, f1, f2, f3, f4, f5⟩ := hl1.cells
    obtain ⟨d0, d1, d2, d3, d4⟩ := hp1.cells
    have hlen0 : List.length ([] : List Pk) ≤ 1000 := by simp <;> omega
    have hL1 := hl1.lt
    have q1 := Lib.hid (show Rw (w1.alloc (.cells #[.int .u64 p.n, .int .u64 p.a, .int .u64 p.s, .bool p.e, .bool p.f] 31)).drew (L + 1) (.slice a 0 cap) ([] : List Pk) from hl1.2.below (grow (Below.refl _ _) _).drew)
    have q2 := Lib.hid (show Pb (w1.alloc (.cells #[.int .u64 p.n, .int .u64 p.a, .int .u64 p.s, .bool p.e, .bool p.f] 31)).drew w1.heap.size p from Pb.new _ _)
    have q3 := Lib.hid (show L + 1 ≤ (w1.alloc (.cells #[.int .u64 p.n, .int .u64 p.a, .int .u64 p.s, .bool p.e, .bool p.f] 31)).drew.heap.size from by show L + 1 ≤ (w1.alloc _).heap.size; simp; omega)
    have q4 := Lib.hid (show ∀ w5, Kp (w1.alloc (.cells #[.int .u64 p.n, .int .u64 p.a, .int .u64 p.s, .bool p.e, .bool p.f] 31)).drew w5 (fun k => (Value.slice a 0 cap).ownBlock = some k) → w5.cell? ⟨L, 0, none⟩ = some (.slice a 0 cap) ∧ w5.frozen? ⟨L, 0, none⟩ = false from fun w5 h5 => (hl1.grown h5).2)
    have q5 := Lib.hid (show ∀ (gg cap2 : Nat) (w5 : World), Rw w5 (L + 1) (.slice (some ⟨gg, 0, none⟩) (List.length ([] : List Pk) + 1) cap2) (([] : List Pk) ++ [p]) → Kp (w1.alloc (.cells #[.int .u64 p.n, .int .u64 p.a, .int .u64 p.s, .bool p.e, .bool p.f] 31)).drew w5 (fun k => (Value.slice a 0 cap).ownBlock = some k) → ((Value.slice a 0 cap).ownBlock = some gg ∨ gg = (w1.alloc (.cells #[.int .u64 p.n, .int .u64 p.a, .int .u64 p.s, .bool p.e, .bool p.f] 31)).drew.heap.size) → _ from fun gg cap2 w5 h5 h6 h7 => hl1.pushed hlw hb1 hp1 h6 h5 hlL (fun g' hg' => by simp [Value.ownBlock] at hg'; subst hg'; rcases h7 with h7 | h7; exact .inl h7; exact .inr (by rw [h7]; show (w1.alloc _).heap.size = _; simp)))
    have Hl := Lib.hid hl1
    have Hp := Lib.hid hp1
    have Hn := Lib.hid hlen0
    clear hl1 hp1 hlen0 hak hl
    go_region_law (first | ((refine step_append_pk (by rfl) (.tmp 48) (.tmp 50) (by rfl) (L + 1) (.slice a 0 cap) ([] : List Pk) (by simp [Act.eval, Act.put]) q1.out w1.heap.size 1 p (by simp [Act.eval, Act.put]) q2.out Hn.out q3.out ?_; intro g2 cap2 w5 hr5 hk5 hb5; obtain ⟨e0, e1⟩ := q4.out w5 hk5; have q6 := Lib.hid (q5.out g2 cap2 w5 hr5 hk5 hb5); clear hr5 hk5 hb5)))
    all_goals
      refine ex_gen (fun W => Led W L (.slice (some ⟨g2, 0, none⟩) (0 + 1) cap2) (([] : List Pk) ++ [p]) true ak wt la ls ∧ Pb W w.heap.size p ∧ Kp w W (Blk L (.slice a 0 cap)) ∧ ((Value.slice (some ⟨g2, 0, none⟩) (0 + 1) cap2).ownBlock = (Value.slice a 0 cap).ownBlock ∨ ∀ k, (Value.slice (some ⟨g2, 0, none⟩) (0 + 1) cap2).ownBlock = some k → w.heap.size ≤ k)) (by have h6 := q6.out; simp only [List.length_append, List.length_cons, List.length_nil, Nat.zero_add] at h6; exact h6) ?_
      clear e0 e1 q6
      rintro w6 ⟨hl6, hp6, hk6', ho6⟩
      obtain ⟨c0, c1, c2, c3, c4, c5, f0, f1, f2, f3, f4, f5⟩ := hl6.cells
      obtain ⟨d0, d1, d2, d3, d4⟩ := hp6.cells
      have Ho := Lib.hid ho6
      clear ho6
      cases he : p.e
      · rw [he] at d3
        have hx : ls' = ls := by rw [hls.out, he]; rfl
        clear he
        go_wp2_with fail
        go_ret
        exact ⟨_, rfl, by rw [hx]; exact hl6, hk6', Ho.out⟩
      · cases hf : p.f
        · rw [he] at d3
          rw [hf] at d4
          have hx : ls' = ls := by rw [hls.out, he, hf]; rfl
          clear he hf
          go_wp2_with fail
          go_ret
          exact ⟨_, rfl, by rw [hx]; exact hl6, hk6', Ho.out⟩
        · rw [he] at d3
          rw [hf] at d4
          have hx : ls' = p.a := by rw [hls.out, he, hf]; rfl
          clear he hf
          have Hx := Lib.hid hx
          clear hx
          go_wp2_with fail
          go_ret
          exact ⟨_, rfl, by rw [Hx.out]; exact hl6.set_last _, hk6'.set _ (.inl rfl) _, Ho.out⟩
set_option maxHeartbeats 2000000 in
theorem sent_more (L : Nat) (v : Value) (so wt : Bool) (ak la ls : Int) (qs : List Pk) (lst p : Pk) (w : World) (hl : Led w L v (qs ++ [lst]) so ak wt la ls) (hak : so = false ∨ ak < p.n) (hrise : lst.n < p.n) (hmany : qs.length + 1 < 256) (ls' : Int) (hls : Hid (ls' = if p.e && p.f then p.a else ls)) :
    Calls Try.prog 8 #[.pointer (some ⟨L, 0, none⟩), pv p] w (SentPost w L v (qs ++ [lst] ++ [p]) so ak wt la ls') := by
  obtain ⟨a, cap, hv, hcs⟩ := hl.2.shape
  obtain ⟨g, rfl, hg, hgl, hgo, hlast, -⟩ := hcs qs.length lst (by simp)
  have hv : v = .slice (some ⟨g, 0, none⟩) (qs.length + 1) cap := by rw [hv, List.length_append]; rfl
  subst hv
  have hlL := hl.lt
  have hlw : ∀ k, (Value.slice (some ⟨g, 0, none⟩) (qs.length + 1) cap).ownBlock = some k → k < w.heap.size := fun k hk => (hl.2.lt k hk).2
  clear hcs
  go_enter Try.func8, Try.ntmps8
  go_upto_region 1 with (fail)
  refine wp_gen (fun W => Led W L (.slice (some ⟨g, 0, none⟩) (qs.length + 1) cap) (qs ++ [lst]) so ak wt la ls ∧ Pb W w.heap.size p ∧ Below w.heap.size w W ∧ W.cell? ⟨g, qs.length * 5, none⟩ = some (.int .u64 lst.n)) ⟨hl.below (grow (Below.refl _ _) _), Pb.new _ _, grow (Below.refl _ _) _, by rw [(grow (Below.refl _ _) _).cell (by exact hgl)]; exact hlast⟩ ?_
  rintro w1 ⟨hl1, hp1, hb1, hlst⟩
  clear hlast hgl hg hgo
  obtain ⟨c0, c1, c2, c3, c4, c5, f0, f1, f2, f3, f4, f5⟩ := hl1.cells
  obtain ⟨d0, d1, d2, d3, d4⟩ := hp1.cells
  have t1 : decide ((0 : Int) < (qs.length : Int) + 1) = true := decide_eq_true (by omega)
  have t2 : decide (p.n ≤ lst.n) = false := decide_eq_false (by omega)
  have i1 : (0 : Int) ≤ (qs.length : Int) := by omega
  have i2 : IntKind.i64.wrap ((qs.length : Int) + 1 - 1) = (qs.length : Int) := by rw [IntWalk.i64_in _ (by omega)]; omega
  go_wp2_with fail
  go_quiet (fail)
  clear hlst
  go_wp2_with fail
  cases so
  · skip
    go_quiet (fail)
    go_wp2_with fail
    refine (full_no L (some ⟨g, 0, none⟩) (qs.length + 1) cap _ (by first | exact c0 | (simpa using c0)) (by omega)).mono ?_
    rintro e wf ⟨rfl, rfl⟩
    go_upto_region 10 with (fail)
    refine wp_gen (fun W => Led W L (.slice (some ⟨g, 0, none⟩) (qs.length + 1) cap) (qs ++ [lst]) false ak wt la ls ∧ Pb W w.heap.size p ∧ Below w.heap.size w W) ⟨by exact hl1, by exact hp1, by exact ⟨hb1.os, hb1.tape, hb1.output, hb1.size, hb1.block⟩⟩ ?_
    clear c0 c1 c2 c3 c4 c5 f0 f1 f2 f3 f4 f5 d0 d1 d2 d3 d4 hl1 hp1 hb1 w1
    rintro w1 ⟨hl1, hp1, hb1⟩
    obtain ⟨c0, c1, c2, c3, c4, c5, f0, f1, f2, f3, f4, f5⟩ := hl1.cells
    obtain ⟨d0, d1, d2, d3, d4⟩ := hp1.cells
    have hlen0 : List.length (qs ++ [lst]) ≤ 1000 := by simp <;> omega
    have hL1 := hl1.lt
    have q1 := Lib.hid (show Rw (w1.alloc (.cells #[.int .u64 p.n, .int .u64 p.a, .int .u64 p.s, .bool p.e, .bool p.f] 31)).drew (L + 1) (.slice (some ⟨g, 0, none⟩) (qs.length + 1) cap) (qs ++ [lst]) from hl1.2.below (grow (Below.refl _ _) _).drew)
    have q2 := Lib.hid (show Pb (w1.alloc (.cells #[.int .u64 p.n, .int .u64 p.a, .int .u64 p.s, .bool p.e, .bool p.f] 31)).drew w1.heap.size p from Pb.new _ _)
    have q3 := Lib.hid (show L + 1 ≤ (w1.alloc (.cells #[.int .u64 p.n, .int .u64 p.a, .int .u64 p.s, .bool p.e, .bool p.f] 31)).drew.heap.size from by show L + 1 ≤ (w1.alloc _).heap.size; simp; omega)
    have q4 := Lib.hid (show ∀ w5, Kp (w1.alloc (.cells #[.int .u64 p.n, .int .u64 p.a, .int .u64 p.s, .bool p.e, .bool p.f] 31)).drew w5 (fun k => (Value.slice (some ⟨g, 0, none⟩) (qs.length + 1) cap).ownBlock = some k) → w5.cell? ⟨L, 0, none⟩ = some (.slice (some ⟨g, 0, none⟩) (qs.length + 1) cap) ∧ w5.frozen? ⟨L, 0, none⟩ = false from fun w5 h5 => (hl1.grown h5).2)
    have q5 := Lib.hid (show ∀ (gg cap2 : Nat) (w5 : World), Rw w5 (L + 1) (.slice (some ⟨gg, 0, none⟩) (List.length (qs ++ [lst]) + 1) cap2) ((qs ++ [lst]) ++ [p]) → Kp (w1.alloc (.cells #[.int .u64 p.n, .int .u64 p.a, .int .u64 p.s, .bool p.e, .bool p.f] 31)).drew w5 (fun k => (Value.slice (some ⟨g, 0, none⟩) (qs.length + 1) cap).ownBlock = some k) → ((Value.slice (some ⟨g, 0, none⟩) (qs.length + 1) cap).ownBlock = some gg ∨ gg = (w1.alloc (.cells #[.int .u64 p.n, .int .u64 p.a, .int .u64 p.s, .bool p.e, .bool p.f] 31)).drew.heap.size) → _ from fun gg cap2 w5 h5 h6 h7 => hl1.pushed hlw hb1 hp1 h6 h5 hlL (fun g' hg' => by simp [Value.ownBlock] at hg'; subst hg'; rcases h7 with h7 | h7; exact .inl h7; exact .inr (by rw [h7]; show (w1.alloc _).heap.size = _; simp)))
    have Hl := Lib.hid hl1
    have Hp := Lib.hid hp1
    have Hn := Lib.hid hlen0
    clear hl1 hp1 hlen0 hak hl
    go_region_law (first | ((refine step_append_pk (by rfl) (.tmp 48) (.tmp 50) (by rfl) (L + 1) (.slice (some ⟨g, 0, none⟩) (qs.length + 1) cap) (qs ++ [lst]) (by simp [Act.eval, Act.put]) q1.out w1.heap.size 1 p (by simp [Act.eval, Act.put]) q2.out Hn.out q3.out ?_; intro g2 cap2 w5 hr5 hk5 hb5; obtain ⟨e0, e1⟩ := q4.out w5 hk5; have q6 := Lib.hid (q5.out g2 cap2 w5 hr5 hk5 hb5); clear hr5 hk5 hb5)))
    all_goals
      refine ex_gen (fun W => Led W L (.slice (some ⟨g2, 0, none⟩) ((qs.length + 1) + 1) cap2) ((qs ++ [lst]) ++ [p]) false ak wt la ls ∧ Pb W w.heap.size p ∧ Kp w W (Blk L (.slice (some ⟨g, 0, none⟩) (qs.length + 1) cap)) ∧ ((Value.slice (some ⟨g2, 0, none⟩) ((qs.length + 1) + 1) cap2).ownBlock = (Value.slice (some ⟨g, 0, none⟩) (qs.length + 1) cap).ownBlock ∨ ∀ k, (Value.slice (some ⟨g2, 0, none⟩) ((qs.length + 1) + 1) cap2).ownBlock = some k → w.heap.size ≤ k)) (by have h6 := q6.out; simp only [List.length_append, List.length_cons, List.length_nil, Nat.zero_add] at h6; exact h6) ?_
      clear e0 e1 q6
      rintro w6 ⟨hl6, hp6, hk6', ho6⟩
      obtain ⟨c0, c1, c2, c3, c4, c5, f0, f1, f2, f3, f4, f5⟩ := hl6.cells
      obtain ⟨d0, d1, d2, d3, d4⟩ := hp6.cells
      have Ho := Lib.hid ho6
      clear ho6
      cases he : p.e
      · rw [he] at d3
        have hx : ls' = ls := by rw [hls.out, he]; rfl
        clear he
        go_wp2_with fail
        go_ret
        exact ⟨_, rfl, by rw [hx]; exact hl6, hk6', Ho.out⟩
      · cases hf : p.f
        · rw [he] at d3
          rw [hf] at d4
          have hx : ls' = ls := by rw [hls.out, he, hf]; rfl
          clear he hf
          go_wp2_with fail
          go_ret
          exact ⟨_, rfl, by rw [hx]; exact hl6, hk6', Ho.out⟩
        · rw [he] at d3
          rw [hf] at d4
          have hx : ls' = p.a := by rw [hls.out, he, hf]; rfl
          clear he hf
          have Hx := Lib.hid hx
          clear hx
          go_wp2_with fail
          go_ret
          exact ⟨_, rfl, by rw [Hx.out]; exact hl6.set_last _, hk6'.set _ (.inl rfl) _, Ho.out⟩
  · have hk6 : decide (p.n ≤ ak) = false := decide_eq_false (by rcases hak with h | h; (exact absurd h (by decide)); omega)
    go_quiet (fail)
    go_wp2_with fail
    refine (full_no L (some ⟨g, 0, none⟩) (qs.length + 1) cap _ (by first | exact c0 | (simpa using c0)) (by omega)).mono ?_
    rintro e wf ⟨rfl, rfl⟩
    go_upto_region 10 with (fail)
    refine wp_gen (fun W => Led W L (.slice (some ⟨g, 0, none⟩) (qs.length + 1) cap) (qs ++ [lst]) true ak wt la ls ∧ Pb W w.heap.size p ∧ Below w.heap.size w W) ⟨by exact hl1, by exact hp1, by exact ⟨hb1.os, hb1.tape, hb1.output, hb1.size, hb1.block⟩⟩ ?_
    clear c0 c1 c2 c3 c4 c5 f0 f1 f2 f3 f4 f5 d0 d1 d2 d3 d4 hl1 hp1 hb1 w1
    rintro w1 ⟨hl1, hp1, hb1⟩
    obtain ⟨c0, c1, c2, c3, c4, c5, f0, f1, f2, f3, f4, f5⟩ := hl1.cells
    obtain ⟨d0, d1, d2, d3, d4⟩ := hp1.cells
    have hlen0 : List.length (qs ++ [lst]) ≤ 1000 := by simp <;> omega
    have hL1 := hl1.lt
    have q1 := Lib.hid (show Rw (w1.alloc (.cells #[.int .u64 p.n, .int .u64 p.a, .int .u64 p.s, .bool p.e, .bool p.f] 31)).drew (L + 1) (.slice (some ⟨g, 0, none⟩) (qs.length + 1) cap) (qs ++ [lst]) from hl1.2.below (grow (Below.refl _ _) _).drew)
    have q2 := Lib.hid (show Pb (w1.alloc (.cells #[.int .u64 p.n, .int .u64 p.a, .int .u64 p.s, .bool p.e, .bool p.f] 31)).drew w1.heap.size p from Pb.new _ _)
    have q3 := Lib.hid (show L + 1 ≤ (w1.alloc (.cells #[.int .u64 p.n, .int .u64 p.a, .int .u64 p.s, .bool p.e, .bool p.f] 31)).drew.heap.size from by show L + 1 ≤ (w1.alloc _).heap.size; simp; omega)
    have q4 := Lib.hid (show ∀ w5, Kp (w1.alloc (.cells #[.int .u64 p.n, .int .u64 p.a, .int .u64 p.s, .bool p.e, .bool p.f] 31)).drew w5 (fun k => (Value.slice (some ⟨g, 0, none⟩) (qs.length + 1) cap).ownBlock = some k) → w5.cell? ⟨L, 0, none⟩ = some (.slice (some ⟨g, 0, none⟩) (qs.length + 1) cap) ∧ w5.frozen? ⟨L, 0, none⟩ = false from fun w5 h5 => (hl1.grown h5).2)
    have q5 := Lib.hid (show ∀ (gg cap2 : Nat) (w5 : World), Rw w5 (L + 1) (.slice (some ⟨gg, 0, none⟩) (List.length (qs ++ [lst]) + 1) cap2) ((qs ++ [lst]) ++ [p]) → Kp (w1.alloc (.cells #[.int .u64 p.n, .int .u64 p.a, .int .u64 p.s, .bool p.e, .bool p.f] 31)).drew w5 (fun k => (Value.slice (some ⟨g, 0, none⟩) (qs.length + 1) cap).ownBlock = some k) → ((Value.slice (some ⟨g, 0, none⟩) (qs.length + 1) cap).ownBlock = some gg ∨ gg = (w1.alloc (.cells #[.int .u64 p.n, .int .u64 p.a, .int .u64 p.s, .bool p.e, .bool p.f] 31)).drew.heap.size) → _ from fun gg cap2 w5 h5 h6 h7 => hl1.pushed hlw hb1 hp1 h6 h5 hlL (fun g' hg' => by simp [Value.ownBlock] at hg'; subst hg'; rcases h7 with h7 | h7; exact .inl h7; exact .inr (by rw [h7]; show (w1.alloc _).heap.size = _; simp)))
    have Hl := Lib.hid hl1
    have Hp := Lib.hid hp1
    have Hn := Lib.hid hlen0
    clear hl1 hp1 hlen0 hak hl
    go_region_law (first | ((refine step_append_pk (by rfl) (.tmp 48) (.tmp 50) (by rfl) (L + 1) (.slice (some ⟨g, 0, none⟩) (qs.length + 1) cap) (qs ++ [lst]) (by simp [Act.eval, Act.put]) q1.out w1.heap.size 1 p (by simp [Act.eval, Act.put]) q2.out Hn.out q3.out ?_; intro g2 cap2 w5 hr5 hk5 hb5; obtain ⟨e0, e1⟩ := q4.out w5 hk5; have q6 := Lib.hid (q5.out g2 cap2 w5 hr5 hk5 hb5); clear hr5 hk5 hb5)))
    all_goals
      refine ex_gen (fun W => Led W L (.slice (some ⟨g2, 0, none⟩) ((qs.length + 1) + 1) cap2) ((qs ++ [lst]) ++ [p]) true ak wt la ls ∧ Pb W w.heap.size p ∧ Kp w W (Blk L (.slice (some ⟨g, 0, none⟩) (qs.length + 1) cap)) ∧ ((Value.slice (some ⟨g2, 0, none⟩) ((qs.length + 1) + 1) cap2).ownBlock = (Value.slice (some ⟨g, 0, none⟩) (qs.length + 1) cap).ownBlock ∨ ∀ k, (Value.slice (some ⟨g2, 0, none⟩) ((qs.length + 1) + 1) cap2).ownBlock = some k → w.heap.size ≤ k)) (by have h6 := q6.out; simp only [List.length_append, List.length_cons, List.length_nil, Nat.zero_add] at h6; exact h6) ?_
      clear e0 e1 q6
      rintro w6 ⟨hl6, hp6, hk6', ho6⟩
      obtain ⟨c0, c1, c2, c3, c4, c5, f0, f1, f2, f3, f4, f5⟩ := hl6.cells
      obtain ⟨d0, d1, d2, d3, d4⟩ := hp6.cells
      have Ho := Lib.hid ho6
      clear ho6
      cases he : p.e
      · rw [he] at d3
        have hx : ls' = ls := by rw [hls.out, he]; rfl
        clear he
        go_wp2_with fail
        go_ret
        exact ⟨_, rfl, by rw [hx]; exact hl6, hk6', Ho.out⟩
      · cases hf : p.f
        · rw [he] at d3
          rw [hf] at d4
          have hx : ls' = ls := by rw [hls.out, he, hf]; rfl
          clear he hf
          go_wp2_with fail
          go_ret
          exact ⟨_, rfl, by rw [hx]; exact hl6, hk6', Ho.out⟩
        · rw [he] at d3
          rw [hf] at d4
          have hx : ls' = p.a := by rw [hls.out, he, hf]; rfl
          clear he hf
          have Hx := Lib.hid hx
          clear hx
          go_wp2_with fail
          go_ret
          exact ⟨_, rfl, by rw [Hx.out]; exact hl6.set_last _, hk6'.set _ (.inl rfl) _, Ho.out⟩
end Go.Proofs.Ytpjahdiddgdahaa
