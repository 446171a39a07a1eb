/- Flight, Waits, Drop; and the law's own 'same'. -/
import Derived.Test.YtpjahdiddgdahaaAwake
import Derived.BigRegion
namespace Go.Proofs.Ytpjahdiddgdahaa
open Go.RowKit
set_option linter.unusedVariables false
set_option linter.unusedSimpArgs false

/-- How many bytes are on their way; is one that wants an answer. -/
def flS : List Pk → Int
  | [] => 0
  | p :: r => (if p.f then p.s else 0) + flS r
theorem flS_snoc (xs : List Pk) (p : Pk) : flS (xs ++ [p]) = flS xs + (if p.f then p.s else 0) := by
  induction xs with
  | nil => simp [flS]
  | cons a r ih => simp only [List.cons_append, flS, ih]; omega
theorem flS_in (xs : List Pk) (h : ∀ p ∈ xs, 0 ≤ p.s ∧ p.s ≤ 65535) : 0 ≤ flS xs ∧ flS xs ≤ 65535 * xs.length := by
  induction xs with
  | nil => simp [flS]
  | cons a r ih =>
    have h1 := h a (by simp)
    have h2 := ih (fun p hp => h p (by simp [hp]))
    simp only [flS, List.length_cons]
    split <;> omega
def waS (ps : List Pk) : Bool := ps.any (fun p => p.e && p.f)

def FlRel (w : World) (ps : List Pk) (x2 i : Value) (wr : World) : Prop :=
  ∃ k : Nat, i = .int .i64 k ∧ k ≤ ps.length ∧ Below w.heap.size w wr ∧ x2 = .int .u64 (flS (ps.take k))

set_option maxHeartbeats 1000000 in
theorem flight_any (L : Nat) (v : Value) (ps : List Pk) (so wt : Bool) (ak la ls : Int) (w : World) (hl : Led w L v ps so ak wt la ls) (hmany : ps.length ≤ 256) (hs : ∀ p ∈ ps, 0 ≤ p.s ∧ p.s ≤ 65535) :
    Calls Try.prog 20 #[.pointer (some ⟨L, 0, none⟩)] w fun e w' => e = .returned (.int .u64 (flS ps)) ∧ Below w.heap.size w w' := by
  obtain ⟨a, cap, hv, hcs⟩ := hl.2.shape
  subst hv
  have Hcs := Lib.hid hcs
  have Hs := Lib.hid hs
  obtain ⟨c0, c1, c2, c3, c4, c5, f0, f1, f2, f3, f4, f5⟩ := hl.cells
  clear hcs hs hl
  go_enter Try.func20, Try.ntmps20
  go_wp2_with fail
  go_loopw [2, 12] (fun x2 i wr => FlRel w ps x2 i wr) (fun x2 i wr => (ps.length - intOf i).toNat)
  case atStart => exact ⟨0, rfl, by omega, Below.refl _ _, rfl⟩
  case round =>
    clear c0 c1 c2 c3 c4 c5 f0 f1 f2 f3 f4 f5
    obtain ⟨k, rfl, hk, hbw, rfl⟩ := hrel
    by_cases hlt : k < ps.length
    · obtain ⟨g, rfl, hg, hgl, hgo, d0, d1, d2, d3, d4⟩ := Hcs.out k ps[k] (List.getElem?_eq_getElem hlt)
      have hp := Hs.out ps[k] (List.getElem_mem hlt)
      have hb := flS_in (ps.take k) (fun p hp => Hs.out p (List.mem_of_mem_take hp))
      have hlk : (ps.take k).length ≤ 256 := Nat.le_trans (List.length_take_le _ _) (by omega)
      have hstep : ps.take (k + 1) = ps.take k ++ [ps[k]] := List.take_succ_eq_append_getElem hlt
      have hsn := flS_snoc (ps.take k) ps[k]
      rw [← hstep] at hsn
      generalize ps[k] = p at *
      generalize flS (ps.take k) = S at *
      have Hsn := Lib.hid hsn
      obtain ⟨hb1, hb2⟩ := hb
      obtain ⟨hp1, hp2⟩ := hp
      have hS : S ≤ 65535 * 256 := by omega
      clear hstep hsn hb2 hlk
      have d0 : wr.cell? ⟨g, k * 5, none⟩ = some (.int .u64 p.n) := by rw [hbw.cell (by exact hgl)]; exact d0
      have d1 : wr.cell? ⟨g, k * 5 + 1, none⟩ = some (.int .u64 p.a) := by rw [hbw.cell (by exact hgl)]; exact d1
      have d2 : wr.cell? ⟨g, k * 5 + 2, none⟩ = some (.int .u64 p.s) := by rw [hbw.cell (by exact hgl)]; exact d2
      have d3 : wr.cell? ⟨g, k * 5 + 3, none⟩ = some (.bool p.e) := by rw [hbw.cell (by exact hgl)]; exact d3
      have d4 : wr.cell? ⟨g, k * 5 + 4, none⟩ = some (.bool p.f) := by rw [hbw.cell (by exact hgl)]; exact d4
      cases hf : p.f
      · rw [hf] at d4
        go_wp2_with fail
        go_roundw
        case rel => exact ⟨k + 1, by go_num, by omega, grow hbw _, by rw [Hsn.out]; simp [hf]⟩
        case measure => simp [intOf]; omega
      · rw [hf] at d4
        go_wp2_with fail
        go_roundw
        case rel => exact ⟨k + 1, by go_num, by omega, grow hbw _, by rw [Hsn.out]; simp [hf]⟩
        case measure => simp [intOf]; omega
    · obtain rfl : k = ps.length := by omega
      go_wp2_with fail
      go_ret
      exact ⟨by rw [List.take_length]; rfl, hbw⟩

def WaitsPost (w : World) (ps : List Pk) (ls : Int) (e : Ending) (w' : World) : Prop :=
  ∃ x b, e = .returned (.tuple #[.int .u64 x, .bool b]) ∧ b = waS ps ∧ (b = true → x = ls) ∧ Below w.heap.size w w'
def WaRel (w : World) (ps : List Pk) (i : Value) (wr : World) : Prop :=
  ∃ k : Nat, i = .int .i64 k ∧ k ≤ ps.length ∧ Below w.heap.size w wr ∧ waS (ps.take k) = false

set_option maxHeartbeats 1000000 in
theorem waits_any (L : Nat) (v : Value) (ps : List Pk) (so wt : Bool) (ak la ls : Int) (w : World) (hl : Led w L v ps so ak wt la ls) (hmany : ps.length ≤ 256) :
    Calls Try.prog 19 #[.pointer (some ⟨L, 0, none⟩)] w (WaitsPost w ps ls) := by
  obtain ⟨a, cap, hv, hcs⟩ := hl.2.shape
  subst hv
  have Hcs := Lib.hid hcs
  have Hl := Lib.hid hl
  obtain ⟨c0, c1, c2, c3, c4, c5, f0, f1, f2, f3, f4, f5⟩ := hl.cells
  clear hcs hl
  go_enter Try.func19, Try.ntmps19
  go_wp2_with fail
  go_loopw [13] (fun i wr => WaRel w ps i wr) (fun i wr => (ps.length - intOf i).toNat)
  case atStart => exact ⟨0, rfl, by omega, Below.refl _ _, by simp [waS]⟩
  case round =>
    clear c0 c1 c2 c3 c4 c5 f0 f1 f2 f3 f4 f5
    obtain ⟨k, rfl, hk, hbw, hno⟩ := hrel
    have Hno := Lib.hid hno
    clear hno
    by_cases hlt : k < ps.length
    · obtain ⟨g, rfl, hg, hgl, hgo, d0, d1, d2, d3, d4⟩ := Hcs.out k ps[k] (List.getElem?_eq_getElem hlt)
      have hstep : ps.take (k + 1) = ps.take k ++ [ps[k]] := List.take_succ_eq_append_getElem hlt
      have hmem : ps[k] ∈ ps := List.getElem_mem hlt
      generalize ps[k] = p at *
      have Hstep := Lib.hid hstep
      have Hmem := Lib.hid hmem
      clear hstep hmem
      have hLw := (Hl.out.below hbw).lt
      obtain ⟨e0, e1, e2, e3, e4, e5, -⟩ := (Hl.out.below hbw).cells
      have d0 : wr.cell? ⟨g, k * 5, none⟩ = some (.int .u64 p.n) := by rw [hbw.cell (by exact hgl)]; exact d0
      have d1 : wr.cell? ⟨g, k * 5 + 1, none⟩ = some (.int .u64 p.a) := by rw [hbw.cell (by exact hgl)]; exact d1
      have d2 : wr.cell? ⟨g, k * 5 + 2, none⟩ = some (.int .u64 p.s) := by rw [hbw.cell (by exact hgl)]; exact d2
      have d3 : wr.cell? ⟨g, k * 5 + 3, none⟩ = some (.bool p.e) := by rw [hbw.cell (by exact hgl)]; exact d3
      have d4 : wr.cell? ⟨g, k * 5 + 4, none⟩ = some (.bool p.f) := by rw [hbw.cell (by exact hgl)]; exact d4
      cases he : p.e
      · rw [he] at d3
        go_wp2_with fail
        go_roundw
        case rel => exact ⟨k + 1, by go_num, by omega, grow hbw _, by rw [Hstep.out]; have h := Hno.out; unfold waS at *; rw [List.any_append, h]; simp [he]⟩
        case measure => simp [intOf]; omega
      · rw [he] at d3
        cases hf : p.f
        · rw [hf] at d4
          go_wp2_with fail
          go_roundw
          case rel => exact ⟨k + 1, by go_num, by omega, grow hbw _, by rw [Hstep.out]; have h := Hno.out; unfold waS at *; rw [List.any_append, h]; simp [he, hf]⟩
          case measure => simp [intOf]; omega
        · rw [hf] at d4
          go_wp2_with fail
          go_ret2
          exact ⟨ls, true, rfl, by unfold waS; rw [List.any_eq_true.2 ⟨p, Hmem.out, by simp [he, hf]⟩], fun _ => rfl, grow hbw _⟩
    · obtain rfl : k = ps.length := by omega
      go_wp2_with fail
      go_ret2
      exact ⟨0, false, rfl, by have h := Hno.out; rw [List.take_length] at h; rw [h], (fun h => nomatch h), hbw⟩

def DropPost (w : World) (L : Nat) (ps : List Pk) (so : Bool) (ak ls : Int) (e : Ending) (w' : World) : Prop :=
  e = .returned (.int .u64 (flS ps)) ∧ Led w' L (.slice none 0 0) [] so ak false 0 ls ∧ Kp w w' (fun k => k = L)

theorem Led.emptied {w : World} {L : Nat} {v : Value} {ps : List Pk} {so wt : Bool} {ak la ls : Int} (h : Led w L v ps so ak wt la ls) : Led (w.setCell ⟨L, 0, none⟩ (.slice none 0 0)) L (.slice none 0 0) [] so ak wt la ls :=
  ⟨by simp [World.setCell, Array.getElem?_modify, h.1], Rw.nil _ _⟩
theorem drop_store {w W : World} {L : Nat} {v : Value} {ps : List Pk} {so wt : Bool} {ak la ls : Int} (h : Led W L v ps so ak wt la ls) (hk : Kp w W (fun k => k = L)) (n : Nat) :
    Led (((W.drewN n).setCell ⟨L, 3, none⟩ (.bool false)).setCell ⟨L, 4, none⟩ (.int .u64 0)) L v ps so ak false 0 ls ∧ Kp w (((W.drewN n).setCell ⟨L, 3, none⟩ (.bool false)).setCell ⟨L, 4, none⟩ (.int .u64 0)) (fun k => k = L) :=
  ⟨(h.below (below_drewN (Below.refl _ _) n)).set_wait _ _, ((hk.trans (Kp.of_below (fun k => k = L) (below_drewN (Below.refl _ W) n)) (fun _ _ h => h)).set ⟨L, 3, none⟩ (by rfl) _).set ⟨L, 4, none⟩ (by rfl) _⟩

set_option maxHeartbeats 1000000 in
theorem drop_any (L : Nat) (v : Value) (ps : List Pk) (so wt : Bool) (ak la ls : Int) (w : World) (hl : Led w L v ps so ak wt la ls) (hmany : ps.length ≤ 256) (hs : ∀ p ∈ ps, 0 ≤ p.s ∧ p.s ≤ 65535) :
    Calls Try.prog 18 #[.pointer (some ⟨L, 0, none⟩)] w (DropPost w L ps so ak ls) := by
  have Hl := Lib.hid hl
  clear hl
  go_enter Try.func18, Try.ntmps18
  go_wp2_with fail
  refine (flight_any L v ps so wt ak la ls w Hl.out hmany hs).mono ?_
  rintro e w1 ⟨rfl, hb1⟩
  have hl1 := Hl.out.below hb1
  obtain ⟨a, cap, hv, -⟩ := hl1.2.shape
  obtain ⟨c0, c1, c2, c3, c4, c5, f0, f1, f2, f3, f4, f5⟩ := hl1.cells
  have Hl1 := Lib.hid hl1
  clear hl1
  subst hv
  go_upto_region 5 with (fail)
  refine wp_gen (fun W => Led W L (.slice none 0 0) [] so ak wt la ls ∧ Kp w W (fun k => k = L)) ⟨Hl1.out.emptied, (Kp.of_below _ hb1).set ⟨L, 0, none⟩ (by rfl) _⟩ ?_
  clear c0 c1 c2 c3 c4 c5 f0 f1 f2 f3 f4 f5 Hl1 hb1 Hl
  rintro W ⟨hl, hk⟩
  obtain ⟨c0, c1, c2, c3, c4, c5, f0, f1, f2, f3, f4, f5⟩ := hl.cells
  have Hl := Lib.hid hl
  have Hk := Lib.hid hk
  clear hl hk
  go_wp2_with fail
  go_ret
  exact ⟨rfl, Hl.out.set_wait _ _, (Hk.out.set ⟨L, 3, none⟩ (by rfl) _).set ⟨L, 4, none⟩ (by rfl) _⟩

/-- Two rows of the same packets are the same. -/
def SaRel (w : World) (n : Nat) (i : Value) (wr : World) : Prop :=
  ∃ k : Nat, i = .int .i64 k ∧ k ≤ n ∧ Below w.heap.size w wr

set_option maxHeartbeats 1000000 in
theorem same_yes (b1 b2 : Nat) (v1 v2 : Value) (ps : List Pk) (w : World) (h1 : Rw w b1 v1 ps) (h2 : Rw w b2 v2 ps) (hmany : ps.length ≤ 256) :
    Calls Try.prog 17 #[v1, v2] w fun e w' => e = .returned (.bool true) ∧ Below w.heap.size w w' := by
  obtain ⟨a1, cap1, hv1, hcs1⟩ := h1.shape
  obtain ⟨a2, cap2, hv2, hcs2⟩ := h2.shape
  subst hv1 hv2
  have Hcs1 := Lib.hid hcs1
  have Hcs2 := Lib.hid hcs2
  clear hcs1 hcs2 h1 h2
  go_enter Try.func17, Try.ntmps17
  go_wp2_with fail
  go_loopw [5, 13] (fun x5 i wr => SaRel w ps.length i wr) (fun x5 i wr => (ps.length - intOf i).toNat)
  case atStart => exact ⟨0, rfl, by omega, Below.refl _ _⟩
  case round =>
    obtain ⟨k, rfl, hk, hbw⟩ := hrel
    by_cases hlt : k < ps.length
    · obtain ⟨g, rfl, hg, hgl, hgo, d0, d1, d2, d3, d4⟩ := Hcs1.out k ps[k] (List.getElem?_eq_getElem hlt)
      obtain ⟨h, rfl, hh, hhl, hho, q0, q1, q2, q3, q4⟩ := Hcs2.out k ps[k] (List.getElem?_eq_getElem hlt)
      generalize ps[k] = p at *
      have d0 : wr.cell? ⟨g, k * 5, none⟩ = some (.int .u64 p.n) := by rw [hbw.cell (by exact hgl)]; exact d0
      have d1 : wr.cell? ⟨g, k * 5 + 1, none⟩ = some (.int .u64 p.a) := by rw [hbw.cell (by exact hgl)]; exact d1
      have d2 : wr.cell? ⟨g, k * 5 + 2, none⟩ = some (.int .u64 p.s) := by rw [hbw.cell (by exact hgl)]; exact d2
      have d3 : wr.cell? ⟨g, k * 5 + 3, none⟩ = some (.bool p.e) := by rw [hbw.cell (by exact hgl)]; exact d3
      have d4 : wr.cell? ⟨g, k * 5 + 4, none⟩ = some (.bool p.f) := by rw [hbw.cell (by exact hgl)]; exact d4
      have q0 : wr.cell? ⟨h, k * 5, none⟩ = some (.int .u64 p.n) := by rw [hbw.cell (by exact hhl)]; exact q0
      have q1 : wr.cell? ⟨h, k * 5 + 1, none⟩ = some (.int .u64 p.a) := by rw [hbw.cell (by exact hhl)]; exact q1
      have q2 : wr.cell? ⟨h, k * 5 + 2, none⟩ = some (.int .u64 p.s) := by rw [hbw.cell (by exact hhl)]; exact q2
      have q3 : wr.cell? ⟨h, k * 5 + 3, none⟩ = some (.bool p.e) := by rw [hbw.cell (by exact hhl)]; exact q3
      have q4 : wr.cell? ⟨h, k * 5 + 4, none⟩ = some (.bool p.f) := by rw [hbw.cell (by exact hhl)]; exact q4
      go_upto_region 6 with (fail)
      go_quiet (fail)
      go_wp2_with fail
      go_roundw
      case rel => exact ⟨k + 1, by go_num, by omega, below_drewN hbw _⟩
      case measure => simp [intOf]; omega
    · obtain rfl : k = ps.length := by omega
      go_wp2_with fail
      go_ret
      exact ⟨rfl, hbw⟩
end Go.Proofs.Ytpjahdiddgdahaa
