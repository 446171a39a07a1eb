/- Acked, LostAt, List: what the ledger tells. -/
import Derived.Test.YtpjahdiddgdahaaTake
import Derived.Deep.QuietTactic
import Derived.BigQuiet
import Derived.Deep.DeepMust
namespace Go.Proofs.Ytpjahdiddgdahaa
open Go.RowKit
set_option linter.unusedVariables false
set_option linter.unusedSimpArgs false

theorem acked_none (L : Nat) (v : Value) (ps : List Pk) (wt : Bool) (ak la ls : Int) (w : World) (hl : Led w L v ps false ak wt la ls) :
    Calls Try.prog 12 #[.pointer (some ⟨L, 0, none⟩)] w fun e w' => e = .returned (.int .i64 (-1)) ∧ Below w.heap.size w w' := by
  obtain ⟨c0, c1, c2, c3, c4, c5, f0, f1, f2, f3, f4, f5⟩ := hl.cells
  go_enter Try.func12, Try.ntmps12
  go_wp2_with fail
  go_ret
  exact ⟨rfl, Below.refl _ _⟩

theorem acked_some (L : Nat) (v : Value) (ps : List Pk) (wt : Bool) (ak la ls : Int) (w : World) (hl : Led w L v ps true ak wt la ls) (h0 : 0 ≤ ak) (h1 : ak ≤ 9223372036854775807) :
    Calls Try.prog 12 #[.pointer (some ⟨L, 0, none⟩)] w fun e w' => e = .returned (.int .i64 ak) ∧ Below w.heap.size w w' := by
  obtain ⟨c0, c1, c2, c3, c4, c5, f0, f1, f2, f3, f4, f5⟩ := hl.cells
  have i1 : IntKind.i64.wrap ak = ak := IntWalk.i64_in _ (by omega)
  go_enter Try.func12, Try.ntmps12
  go_wp2_with fail
  go_ret
  exact ⟨rfl, Below.refl _ _⟩

theorem lostat_any (L : Nat) (v : Value) (ps : List Pk) (so wt : Bool) (ak la ls : Int) (w : World) (hl : Led w L v ps so ak wt la ls) :
    Calls Try.prog 15 #[.pointer (some ⟨L, 0, none⟩)] w fun e w' => e = .returned (.tuple #[.int .u64 la, .bool wt]) ∧ Below w.heap.size w w' := by
  obtain ⟨c0, c1, c2, c3, c4, c5, f0, f1, f2, f3, f4, f5⟩ := hl.cells
  go_enter Try.func15, Try.ntmps15
  go_wp2_with fail
  go_quiet (fail)
  go_wp2_with fail
  go_ret2
  exact ⟨rfl, below_drewN (Below.refl _ _) _⟩

theorem pcs_one (ps : List Pk) : ∀ u ∈ pcs ps, u.oneCell' = true := by
  induction ps with
  | nil => simp [pcs]
  | cons p r ih =>
    intro u hu
    rcases List.mem_append.1 hu with h | h
    · simp [Pk.cells] at h
      rcases h with rfl | rfl | rfl | rfl | rfl <;> rfl
    · exact ih u h

/-- A whole row behind a row of the call's own. -/
theorem wpList_append_row {w : World} {ops : Array Oper} {rest : List Oper} {o : Oper} {a : Act} {Q : Exit → Act → World → Prop}
    (hg : o.guard = none) (s x : Operand) (hop : o.op = Op.call { callee := Callee.builtin Builtin.append, args := #[s, x], argTypes := #[36, 36] })
    (base : Nat) (v : Value) (ps : List Pk) (hs : a.eval s = v) (hown : Rw w base v ps) (b2 G c : Nat) (qs : List Pk) (hx : a.eval x = .slice (some ⟨G, 0, none⟩) qs.length c) (hc : Rw w b2 (.slice (some ⟨G, 0, none⟩) qs.length c) qs)
    (hlen : ps.length + qs.length ≤ 1000) (hbase : base ≤ w.heap.size)
    (h : ∀ v' w', Rw w' base v' (ps ++ qs) → Kp w w' (fun k => v.ownBlock = some k) → (v'.ownBlock = v.ownBlock ∨ v'.ownBlock = some w.heap.size) → wpList Try.prog ops Q rest (a.put o.dst v') w') : wpList Try.prog ops Q (o :: rest) a w := by
  obtain ⟨i, hi, hz0, hz1, hz2⟩ := info_parts info31
  refine wpList_plain hg fun K hK => ?_
  obtain ⟨v', w', hr, h2, h3, _, h5⟩ := run_append_own_at (P := Try.prog) w base 36 o.type 31 i _ 5 32 Try.underlying36 hi hz0 hz1 hz2 rfl (by omega) v ps.length (pcs ps) hown ⟨G, 0, none⟩ qs.length c (pcs qs) (pcs_length qs)
    (fun j u hj => World.ownsRow.cells hc (g := G) rfl j u hj)
    (pcs_one qs) (by unfold maxLen; omega) (by omega) hbase
  unfold Oper.wp execOp
  simp only [hop, resolve, invoke, builtin, Sem.run_bind, Sem.run_pure, Result.andThen_ok, List.map_toArray, List.map_cons, List.map_nil, hs, hx, hr]
  refine hK _ _ (h v' w' ?_ ⟨h3.os, h3.tape, h3.output, h3.size, fun k hk hne => h3.block k hk (fun e => hne e.symm)⟩ h5)
  unfold Rw
  rw [pcs_append, List.length_append]
  exact h2

/-- A row of the same packets, of the call's own. -/
def ListPost (w : World) (ps : List Pk) (e : Ending) (w' : World) : Prop :=
  ∃ v', e = .returned v' ∧ Rw w' w.heap.size v' ps ∧ Below w.heap.size w w'

theorem row0 (w : World) : Rw (w.alloc (.cells #[] 31)) w.heap.size (.slice (some ⟨w.heap.size, 0, none⟩) 0 0) [] :=
  ⟨by simp [pcs], .inr ⟨w.heap.size, 0, #[], rfl, Nat.le_refl _, by show (w.heap.push _)[w.heap.size]? = _; simp, Nat.le_refl _, by simp [maxLen], by simp, by simp [pcs]⟩⟩

set_option maxHeartbeats 400000 in
theorem clone_any (b : Nat) (v : Value) (ps : List Pk) (w : World) (hr : Rw w b v ps) (hmany : ps.length ≤ 256) :
    Calls Try.prog 27 #[v] w (ListPost w ps) := by
  have heq : ∀ (w : World) (a : Option Addr) (n c n' c' : Nat), (binOp .eql 36 (.slice a n c) (.slice none n' c')).run Try.prog w = .ok (.bool a.isNone) w := fun w a n c n' c' => Lib.run_eql_slice_nil w 36 31 a n c n' c' Try.underlying36
  have hrr := hr
  rcases hr.2 with ⟨rfl, hn⟩ | ⟨g, cap, cur, rfl, hb, hg, hnc, hcm, hcs, htake⟩
  · obtain rfl : ps = [] := List.eq_nil_of_length_eq_zero hn
    go_enter Try.func27, Try.ntmps27
    go_wp2_with fail
    go_ret
    exact ⟨_, rfl, Rw.nil _ _, Below.refl _ _⟩
  · clear hcs htake hg
    have Hr := Lib.hid hrr
    clear hr hrr
    go_enter Try.func27, Try.ntmps27
    go_wp2_with (at_builtin; go_must (refine wpList_append_row rfl (.tmp 5) (.tmp 6) rfl w.heap.size (.slice (some ⟨w.heap.size, 0, none⟩) 0 0) [] rfl (row0 w) b g cap ps rfl (Hr.out.below (grow (Below.refl _ _) _)) (by simp; omega) (by simp) ?_))
    intro v' w5 hr5 hk5 ho5
    have Hr5 := Lib.hid hr5
    have Hk5 := Lib.hid hk5
    clear hr5 hk5 ho5
    go_wp2_with fail
    go_ret
    exact ⟨v', rfl, by simpa using Hr5.out, (grow (Below.refl _ _) _).trans (Hk5.out.to_below (by simp) (fun k hk e => by simp [Value.ownBlock] at e; omega))⟩

set_option maxHeartbeats 400000 in
theorem list_any (L : Nat) (v : Value) (ps : List Pk) (so wt : Bool) (ak la ls : Int) (w : World) (hl : Led w L v ps so ak wt la ls) (hmany : ps.length ≤ 256) :
    Calls Try.prog 16 #[.pointer (some ⟨L, 0, none⟩)] w (ListPost w ps) := by
  obtain ⟨a, cap, hv, -⟩ := hl.2.shape
  subst hv
  obtain ⟨c0, c1, c2, c3, c4, c5, f0, f1, f2, f3, f4, f5⟩ := hl.cells
  have Hl := Lib.hid hl.2
  clear hl
  go_enter Try.func16, Try.ntmps16
  go_wp2_with fail
  refine (clone_any (L + 1) _ ps _ Hl.out hmany).mono ?_
  rintro e w1 ⟨v', rfl, hr1, hb1⟩
  go_wp2_with fail
  go_ret
  exact ⟨v', rfl, hr1, hb1⟩
end Go.Proofs.Ytpjahdiddgdahaa
