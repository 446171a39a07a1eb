/- How the law's argument, a slice of acts, reads: act by act, field by field. -/
import Derived.Test.YtpjahdiddgdahaaSmalls
namespace Go.Proofs.Ytpjahdiddgdahaa
open Go.ChangeShapes Go.WideShapes Go.Deep Go.RowKit
set_option linter.unusedVariables false

/-- An act: its kind, gap, size, wait; from, many, more; three bools; a range; a number. -/
structure Ac where
  k : Int
  g : Int
  s : Int
  w : Int
  fr : Int
  mn : Int
  mo : Int
  e : Bool
  f : Bool
  r : Bool
  af : Int
  at' : Int
  nu : Int

structure Ac.Ok (x : Ac) : Prop where
  k : 0 ≤ x.k ∧ x.k ≤ 255
  g : 0 ≤ x.g ∧ x.g ≤ 255
  s : 0 ≤ x.s ∧ x.s ≤ 65535
  w : 0 ≤ x.w ∧ x.w ≤ 65535
  fr : 0 ≤ x.fr ∧ x.fr ≤ 255
  mn : 0 ≤ x.mn ∧ x.mn ≤ 255
  mo : 0 ≤ x.mo ∧ x.mo ≤ 255
  af : 0 ≤ x.af ∧ x.af ≤ 18446744073709551615
  at' : 0 ≤ x.at' ∧ x.at' ≤ 18446744073709551615
  nu : 0 ≤ x.nu ∧ x.nu ≤ 18446744073709551615

def Ac.vals (x : Ac) : List Value := [.int .u8 x.k, .int .u8 x.g, .int .u16 x.s, .int .u16 x.w, .int .u8 x.fr, .int .u8 x.mn, .int .u8 x.mo, .bool x.e, .bool x.f, .bool x.r, .int .u64 x.af, .int .u64 x.at', .int .u64 x.nu]

section
variable {H : Type} {enc : TypeId × Value → H} {w : World} {base : Nat} {held : Bool}
theorem c5 : Try.prog.cellsOf 5 = 1 := by kernel_rfl
theorem c47 : Try.prog.cellsOf 47 = 1 := by kernel_rfl
theorem c4 : Try.prog.cellsOf 4 = 1 := by kernel_rfl
theorem c27 : Try.prog.cellsOf 27 = 1 := by kernel_rfl
theorem c40 : Try.prog.cellsOf 40 = 2 := by kernel_rfl
theorem c55 : Try.prog.cellsOf 55 = 13 := by kernel_rfl

theorem open_act {n0 : Nat} {cs : List Value} {x : DataW H × List MemPlace} (h : DataW.trod enc Try.prog w base (fun _ => true) held n0 55 cs = some x) : ∃ y : Ac, cs = y.vals ∧ y.Ok := by
  obtain ⟨xs, n, _, _, hl, hxl, hf⟩ := DataW.trod_struct Try.underlying55 h
  rw [c55] at hl
  match cs, hl with
  | [v0, v1, v2, v3, v4, v5, v6, v7, v8, v9, v10, v11, v12], _ =>
    have get : ∀ (i : Nat), i < xs.length → ∃ y, xs[i]? = some y := fun i hi => ⟨xs[i], List.getElem?_eq_getElem hi⟩
    have hx : xs.length = 12 := hxl
    have t0 : DataW.trod enc Try.prog w base (fun _ => true) held n 5 (([v0, v1, v2, v3, v4, v5, v6, v7, v8, v9, v10, v11, v12].drop 0).take (Try.prog.cellsOf 5)) = xs[0]? := hf 0 _ rfl
    have t1 : DataW.trod enc Try.prog w base (fun _ => true) held n 5 (([v0, v1, v2, v3, v4, v5, v6, v7, v8, v9, v10, v11, v12].drop 1).take (Try.prog.cellsOf 5)) = xs[1]? := hf 1 _ rfl
    have t2 : DataW.trod enc Try.prog w base (fun _ => true) held n 47 (([v0, v1, v2, v3, v4, v5, v6, v7, v8, v9, v10, v11, v12].drop 2).take (Try.prog.cellsOf 47)) = xs[2]? := hf 2 _ rfl
    have t3 : DataW.trod enc Try.prog w base (fun _ => true) held n 47 (([v0, v1, v2, v3, v4, v5, v6, v7, v8, v9, v10, v11, v12].drop 3).take (Try.prog.cellsOf 47)) = xs[3]? := hf 3 _ rfl
    have t4 : DataW.trod enc Try.prog w base (fun _ => true) held n 5 (([v0, v1, v2, v3, v4, v5, v6, v7, v8, v9, v10, v11, v12].drop 4).take (Try.prog.cellsOf 5)) = xs[4]? := hf 4 _ rfl
    have t5 : DataW.trod enc Try.prog w base (fun _ => true) held n 5 (([v0, v1, v2, v3, v4, v5, v6, v7, v8, v9, v10, v11, v12].drop 5).take (Try.prog.cellsOf 5)) = xs[5]? := hf 5 _ rfl
    have t6 : DataW.trod enc Try.prog w base (fun _ => true) held n 5 (([v0, v1, v2, v3, v4, v5, v6, v7, v8, v9, v10, v11, v12].drop 6).take (Try.prog.cellsOf 5)) = xs[6]? := hf 6 _ rfl
    have t7 : DataW.trod enc Try.prog w base (fun _ => true) held n 4 (([v0, v1, v2, v3, v4, v5, v6, v7, v8, v9, v10, v11, v12].drop 7).take (Try.prog.cellsOf 4)) = xs[7]? := hf 7 _ rfl
    have t8 : DataW.trod enc Try.prog w base (fun _ => true) held n 4 (([v0, v1, v2, v3, v4, v5, v6, v7, v8, v9, v10, v11, v12].drop 8).take (Try.prog.cellsOf 4)) = xs[8]? := hf 8 _ rfl
    have t9 : DataW.trod enc Try.prog w base (fun _ => true) held n 4 (([v0, v1, v2, v3, v4, v5, v6, v7, v8, v9, v10, v11, v12].drop 9).take (Try.prog.cellsOf 4)) = xs[9]? := hf 9 _ rfl
    have t10 : DataW.trod enc Try.prog w base (fun _ => true) held n 40 (([v0, v1, v2, v3, v4, v5, v6, v7, v8, v9, v10, v11, v12].drop 10).take (Try.prog.cellsOf 40)) = xs[10]? := hf 10 _ rfl
    have t11 : DataW.trod enc Try.prog w base (fun _ => true) held n 27 (([v0, v1, v2, v3, v4, v5, v6, v7, v8, v9, v10, v11, v12].drop 12).take (Try.prog.cellsOf 27)) = xs[11]? := hf 11 _ rfl
    simp only [c5, c47, c4, c27, c40, List.drop_succ_cons, List.drop_zero, List.take_succ_cons, List.take_zero] at t0 t1 t2 t3 t4 t5 t6 t7 t8 t9 t10 t11
    obtain ⟨y0, e0⟩ := get 0 (by omega)
    obtain ⟨y1, e1⟩ := get 1 (by omega)
    obtain ⟨y2, e2⟩ := get 2 (by omega)
    obtain ⟨y3, e3⟩ := get 3 (by omega)
    obtain ⟨y4, e4⟩ := get 4 (by omega)
    obtain ⟨y5, e5⟩ := get 5 (by omega)
    obtain ⟨y6, e6⟩ := get 6 (by omega)
    obtain ⟨y7, e7⟩ := get 7 (by omega)
    obtain ⟨y8, e8⟩ := get 8 (by omega)
    obtain ⟨y9, e9⟩ := get 9 (by omega)
    obtain ⟨y10, e10⟩ := get 10 (by omega)
    obtain ⟨y11, e11⟩ := get 11 (by omega)
    rw [e0] at t0
    rw [e1] at t1
    rw [e2] at t2
    rw [e3] at t3
    rw [e4] at t4
    rw [e5] at t5
    rw [e6] at t6
    rw [e7] at t7
    rw [e8] at t8
    rw [e9] at t9
    rw [e10] at t10
    rw [e11] at t11
    obtain ⟨k, q0, _, w0⟩ := DataW.trod_int Try.underlying5 t0
    obtain ⟨g, q1, _, w1⟩ := DataW.trod_int Try.underlying5 t1
    obtain ⟨s, q2, _, w2⟩ := DataW.trod_int Try.underlying47 t2
    obtain ⟨wt, q3, _, w3⟩ := DataW.trod_int Try.underlying47 t3
    obtain ⟨fr, q4, _, w4⟩ := DataW.trod_int Try.underlying5 t4
    obtain ⟨mn, q5, _, w5⟩ := DataW.trod_int Try.underlying5 t5
    obtain ⟨mo, q6, _, w6⟩ := DataW.trod_int Try.underlying5 t6
    obtain ⟨e, q7, _⟩ := DataW.trod_bool Try.underlying4 t7
    obtain ⟨f, q8, _⟩ := DataW.trod_bool Try.underlying4 t8
    obtain ⟨r, q9, _⟩ := DataW.trod_bool Try.underlying4 t9
    obtain ⟨z0, z1, n', _, _, u0, u1⟩ := trod_struct2 Try.underlying40 t10
    have u0 : DataW.trod enc Try.prog w base (fun _ => true) held n' 27 (([v10, v11].drop 0).take (Try.prog.cellsOf 27)) = some z0 := u0
    have u1 : DataW.trod enc Try.prog w base (fun _ => true) held n' 27 (([v10, v11].drop 1).take (Try.prog.cellsOf 27)) = some z1 := u1
    simp only [c27, List.drop_succ_cons, List.drop_zero, List.take_succ_cons, List.take_zero] at u0 u1
    obtain ⟨af, q10, _, w10⟩ := DataW.trod_int Try.underlying27 u0
    obtain ⟨at', q11, _, w11⟩ := DataW.trod_int Try.underlying27 u1
    obtain ⟨nu, q12, _, w12⟩ := DataW.trod_int Try.underlying27 t11
    simp at q0 q1 q2 q3 q4 q5 q6 q7 q8 q9 q10 q11 q12
    subst q0 q1 q2 q3 q4 q5 q6 q7 q8 q9 q10 q11 q12
    exact ⟨⟨k, g, s, wt, fr, mn, mo, e, f, r, af, at', nu⟩, rfl, ⟨bounds_u8 w0, bounds_u8 w1, bounds_u16 w2, bounds_u16 w3, bounds_u8 w4, bounds_u8 w5, bounds_u8 w6, bounds_u64 w10, bounds_u64 w11, bounds_u64 w12⟩⟩

/-- What is known of a slice of acts. -/
def ActsAre (w : World) (a : Option Addr) (len : Nat) (A : Nat → Ac) : Prop :=
  len ≤ 9223372036854775807 ∧ ∀ i, i < len → (A i).Ok ∧ ∃ b off, a = some ⟨b, off, none⟩ ∧ b < w.heap.size ∧ ∀ j v, (A i).vals[j]? = some v → w.cell? ⟨b, off + i * 13 + j, none⟩ = some v

theorem open_acts {fuel : Nat} {a : Option Addr} {len cap : Nat} {x : DataW H × List MemPlace} (h : DataW.trod enc Try.prog w base (fun _ => true) held fuel 53 [.slice a len cap] = some x) :
    ∃ A, ActsAre w a len A := by
  rcases open_slice Try.underlying53 h with h0 | ⟨ad, l, c, m, n, D, Pl, hcs, _, hl, hm, hmm, _, hi⟩
  · have h1 := h0.1
    simp at h1
    exact ⟨fun _ => ⟨0, 0, 0, 0, 0, 0, 0, false, false, false, 0, 0, 0⟩, by omega, fun i hi => by omega⟩
  · simp at hcs
    obtain ⟨rfl, rfl, rfl⟩ := hcs
    simp at hmm
    subst hmm
    unfold maxLen at hm
    have hall : ∀ i, ∃ y : Ac, i < m → y.Ok ∧ ∀ j v, y.vals[j]? = some v → w.cell? (ad.add (i * 13 + j)) = some v := by
      intro i
      by_cases hlt : i < m
      · obtain ⟨cs', hc, ht'⟩ := hi i hlt
        rw [c55] at hc
        obtain ⟨y, rfl, ho⟩ := open_act ht'
        obtain ⟨_, hcl, hat⟩ := World.cells?_some hc
        refine ⟨y, fun _ => ⟨ho, fun j v hj => ?_⟩⟩
        have hjl : j < 13 := by
          have := (List.getElem?_eq_some_iff.1 hj).1
          simpa [Ac.vals] using this
        have h2 := hat j hjl
        rw [← Go.Deep.add_add, h2, hj]
      · exact ⟨⟨0, 0, 0, 0, 0, 0, 0, false, false, false, 0, 0, 0⟩, fun h => absurd h hlt⟩
    obtain ⟨F, hF⟩ := Classical.axiomOfChoice hall
    refine ⟨F, by omega, fun i hil => ⟨(hF i (by omega)).1, ?_⟩⟩
    obtain ⟨b, off, spot⟩ := ad
    have h1 := (hF 0 (by omega)).2 0 _ rfl
    have hspot : spot = none := by simpa [Addr.add] using World.cell?_spot h1
    subst hspot
    have hb := block_lt_of_cell h1
    have hadd : ∀ n, (Addr.add ⟨b, off, none⟩ n) = ⟨b, off + n, none⟩ := fun n => by
      unfold Addr.add
      split
      · subst n; rfl
      · rfl
    refine ⟨b, off, rfl, by simpa [Addr.add] using hb, fun j v hj => ?_⟩
    have h2 := (hF i (by omega)).2 j v hj
    rw [hadd, ← Nat.add_assoc] at h2
    exact h2
end
end Go.Proofs.Ytpjahdiddgdahaa
