/- Whether a packet's number is in one of some ranges: the closures of Came and the library's ContainsFunc, IndexFunc. -/
import Derived.Test.YtpjahdiddgdahaaBase
import Derived.Deep.QuietTactic
import Derived.BigQuiet
import Derived.Deep.Cut
namespace Go.Proofs.Ytpjahdiddgdahaa
open Go.RowKit
set_option linter.unusedVariables false
set_option linter.unusedSimpArgs false

abbrev gv (r : Int × Int) : Value := .agg #[.int .u64 r.1, .int .u64 r.2]
def inR (n : Int) (r : Int × Int) : Bool := decide (r.1 ≤ n) && decide (n < r.2)

/-- The slice v holds the ranges rs. -/
def RgAre (w : World) (v : Value) (rs : List (Int × Int)) : Prop :=
  ∃ (a : Option Addr) (cap : Nat), v = .slice a rs.length cap ∧ ∀ j r, rs[j]? = some r → ∃ g, a = some ⟨g, 0, none⟩ ∧ g < w.heap.size ∧ w.cell? ⟨g, j * 2, none⟩ = some (.int .u64 r.1) ∧ w.cell? ⟨g, j * 2 + 1, none⟩ = some (.int .u64 r.2)
theorem RgAre.below {w w' : World} {v : Value} {rs : List (Int × Int)} (h : RgAre w v rs) (hb : Below w.heap.size w w') : RgAre w' v rs := by
  obtain ⟨a, cap, hv, hc⟩ := h
  refine ⟨a, cap, hv, fun j r hj => ?_⟩
  obtain ⟨g, ha, hg, h1, h2⟩ := hc j r hj
  exact ⟨g, ha, Nat.lt_of_lt_of_le hg hb.size, (hb.cell (p := ⟨g, j * 2, none⟩) hg).trans h1, (hb.cell (p := ⟨g, j * 2 + 1, none⟩) hg).trans h2⟩

set_option maxHeartbeats 400000 in
theorem in_one (f t : Int) (C : Nat) (n : Int) (b : Bool) (w : World) (hn : w.cell? ⟨C, 0, none⟩ = some (.int .u64 n)) (hC : C < w.heap.size) (hb : inR n (f, t) = b) :
    Calls Try.prog 25 #[gv (f, t), .pointer (some ⟨C, 0, none⟩)] w fun e w' => e = .returned (.bool b) ∧ Below w.heap.size w w' := by
  unfold inR at hb
  by_cases h1 : f ≤ n
  · have hd : decide (n < t) = b := by simpa [h1] using hb
    clear hb
    go_enter Try.func25, Try.ntmps25
    go_upto_region 1 with (fail)
    refine wp_gen (fun W => W.cell? ⟨C, 0, none⟩ = some (.int .u64 n) ∧ W.cell? ⟨w.heap.size, 0, none⟩ = some (.int .u64 f) ∧ W.cell? ⟨w.heap.size, 1, none⟩ = some (.int .u64 t) ∧ Below w.heap.size w W)
      ⟨by rw [(grow (Below.refl _ _) _).cell (by exact hC)]; exact hn, by go_simp, by go_simp, grow (Below.refl _ _) _⟩ ?_
    clear hn
    rintro w1 ⟨hn, c0, c1, hb1⟩
    go_wp2_with fail
    go_ret
    exact ⟨rfl, hb1⟩
  · have hd : b = false := by rw [← hb]; simp [h1]
    subst hd
    have h2 : decide (f ≤ n) = false := by simpa using h1
    clear hb h1
    go_enter Try.func25, Try.ntmps25
    go_upto_region 1 with (fail)
    refine wp_gen (fun W => W.cell? ⟨C, 0, none⟩ = some (.int .u64 n) ∧ W.cell? ⟨w.heap.size, 0, none⟩ = some (.int .u64 f) ∧ W.cell? ⟨w.heap.size, 1, none⟩ = some (.int .u64 t) ∧ Below w.heap.size w W)
      ⟨by rw [(grow (Below.refl _ _) _).cell (by exact hC)]; exact hn, by go_simp, by go_simp, grow (Below.refl _ _) _⟩ ?_
    clear hn
    rintro w1 ⟨hn, c0, c1, hb1⟩
    go_wp2_with fail
    go_ret
    exact ⟨rfl, hb1⟩

/-- What IndexFunc answers: not below nought just where one of them holds the number. -/
def IndexPost (w : World) (n : Int) (rs : List (Int × Int)) (e : Ending) (w' : World) : Prop :=
  ∃ i : Int, e = .returned (.int .i64 i) ∧ decide (0 ≤ i) = rs.any (inR n) ∧ Below w.heap.size w w'
/-- The first k of them do not hold it. -/
def IndexRel (w : World) (n : Int) (rs : List (Int × Int)) (x5 i : Value) (wr : World) : Prop :=
  ∃ k : Nat, i = .int .i64 k ∧ k ≤ rs.length ∧ Below w.heap.size w wr ∧ (rs.take k).any (inR n) = false

set_option maxHeartbeats 1000000 in
theorem index_any (v : Value) (rs : List (Int × Int)) (C : Nat) (n : Int) (w : World) (hrs : RgAre w v rs) (hlen : rs.length ≤ 1000) (hn : w.cell? ⟨C, 0, none⟩ = some (.int .u64 n)) (hC : C < w.heap.size) :
    Calls Try.prog 28 #[v, .func (.func 25) #[] #[.pointer (some ⟨C, 0, none⟩)]] w (IndexPost w n rs) := by
  obtain ⟨a, cap, rfl, hcs⟩ := hrs
  have Hcs := Lib.hid hcs
  clear hcs
  go_enter Try.func28, Try.ntmps28
  go_wp2_with fail
  go_loopw [5, 8] (fun x5 i wr => IndexRel w n rs x5 i wr) (fun x5 i wr => (rs.length - intOf i).toNat)
  case atStart => exact ⟨0, rfl, by omega, Below.refl _ _, by simp⟩
  case round =>
    obtain ⟨k, rfl, hk, hbw, hno⟩ := hrel
    have Hno := Lib.hid hno
    clear hno
    have hn1 : wr.cell? ⟨C, 0, none⟩ = some (.int .u64 n) := by rw [hbw.cell (by exact hC)]; exact hn
    have hC1 : C < wr.heap.size := Nat.lt_of_lt_of_le hC hbw.size
    have Hn := Lib.hid hn1
    clear hn1
    by_cases hlt : k < rs.length
    · obtain ⟨g, rfl, hg, d0, d1⟩ := Hcs.out k rs[k] (List.getElem?_eq_getElem hlt)
      have hstep : rs.take (k + 1) = rs.take k ++ [rs[k]] := List.take_succ_eq_append_getElem hlt
      have hmem : rs[k] ∈ rs := List.getElem_mem hlt
      generalize hr : rs[k] = r at *
      obtain ⟨f, t⟩ := r
      have Hstep := Lib.hid hstep
      have Hmem := Lib.hid hmem
      clear hstep hr hmem
      have d0 : wr.cell? ⟨g, k * 2, none⟩ = some (.int .u64 f) := by rw [hbw.cell (by exact hg)]; exact d0
      have d1 : wr.cell? ⟨g, k * 2 + 1, none⟩ = some (.int .u64 t) := by rw [hbw.cell (by exact hg)]; exact d1
      cases hin : inR n (f, t)
      · go_wp2_with fail
        refine (in_one f t C n false wr Hn.out hC1 hin).mono ?_
        rintro e w1 ⟨rfl, hb1⟩
        have Hin := Lib.hid hin
        clear hin
        go_wp2_with fail
        go_roundw
        case rel => exact ⟨k + 1, by go_num, by omega, hbw.trans (hb1.mono hbw.size), by rw [Hstep.out, List.any_append, Hno.out]; simp [Hin.out]⟩
        case measure => simp [intOf]; omega
      · go_wp2_with fail
        refine (in_one f t C n true wr Hn.out hC1 hin).mono ?_
        rintro e w1 ⟨rfl, hb1⟩
        have Hin := Lib.hid hin
        clear hin
        go_wp2_with fail
        go_ret
        exact ⟨k, rfl, by rw [List.any_eq_true.2 ⟨(f, t), Hmem.out, Hin.out⟩]; simp, hbw.trans (hb1.mono hbw.size)⟩
    · obtain rfl : k = rs.length := by omega
      go_wp2_with fail
      go_ret
      exact ⟨-1, rfl, by have h := Hno.out; rw [List.take_length] at h; rw [h]; rfl, hbw⟩

set_option maxHeartbeats 400000 in
theorem contains_any (v : Value) (rs : List (Int × Int)) (C : Nat) (n : Int) (b : Bool) (w : World) (hrs : RgAre w v rs) (hlen : rs.length ≤ 1000) (hn : w.cell? ⟨C, 0, none⟩ = some (.int .u64 n)) (hC : C < w.heap.size) (hb : rs.any (inR n) = b) :
    Calls Try.prog 24 #[v, .func (.func 25) #[] #[.pointer (some ⟨C, 0, none⟩)]] w fun e w' => e = .returned (.bool b) ∧ Below w.heap.size w w' := by
  have Hb := Lib.hid hb
  have Hr := Lib.hid hrs
  have Hn := Lib.hid hn
  clear hb hrs hn
  go_enter Try.func24, Try.ntmps24
  go_wp2_with fail
  refine (index_any v rs C n _ Hr.out hlen Hn.out hC).mono ?_
  rintro e w1 ⟨i, rfl, hi, hb1⟩
  have hi2 : decide (0 ≤ i) = b := by rw [hi, Hb.out]
  clear hi
  go_wp2_with fail
  go_ret
  exact ⟨rfl, hb1⟩

set_option maxHeartbeats 400000 in
theorem wanted_came (p : Pk) (T : Nat) (v : Value) (rs : List (Int × Int)) (w : World) (hrs : RgAre w v rs) (hlen : rs.length ≤ 1000) (hT : w.cell? ⟨T, 0, none⟩ = some v) (hTl : T < w.heap.size) :
    Calls Try.prog 23 #[pv p, .pointer (some ⟨T, 0, none⟩)] w fun e w' => e = .returned (.bool (rs.any (inR p.n))) ∧ Below w.heap.size w w' := by
  have hmf : ∀ (fn : Fn) (first cap : Array Value) (w : World), (Instr.makeFunc fn first cap).run Try.prog w = .ok (.func fn first cap) w := fun _ _ _ _ => rfl
  obtain ⟨a, cap, hv, hcs⟩ := hrs
  have Hr := Lib.hid (show RgAre w v rs from ⟨a, cap, hv, hcs⟩)
  clear hcs
  subst hv
  go_enter Try.func23, Try.ntmps23
  go_upto_region 1 with (fail)
  refine wp_gen (fun W => RgAre W (.slice a rs.length cap) rs ∧ W.cell? ⟨T, 0, none⟩ = some (.slice a rs.length cap) ∧ W.cell? ⟨w.heap.size, 0, none⟩ = some (.int .u64 p.n) ∧ w.heap.size < W.heap.size ∧ Below w.heap.size w W)
    ⟨Hr.out.below (grow (Below.refl _ _) _), by rw [(grow (Below.refl _ _) _).cell (by exact hTl)]; exact hT, by go_simp, by simp, grow (Below.refl _ _) _⟩ ?_
  clear hT
  rintro w1 ⟨hr1, hT1, hn1, hlt1, hb1⟩
  have Hr1 := Lib.hid hr1
  have Hn1 := Lib.hid hn1
  clear hr1 hn1
  go_wp2_with fail
  refine (contains_any _ rs w.heap.size p.n _ w1 Hr1.out hlen Hn1.out hlt1 rfl).mono ?_
  rintro e w2 ⟨rfl, hb2⟩
  go_wp2_with fail
  go_ret
  exact ⟨rfl, hb1.trans (hb2.mono hb1.size)⟩
end Go.Proofs.Ytpjahdiddgdahaa
