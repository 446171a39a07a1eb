/- How the law's other argument, a round trip by value, reads. -/
import Derived.Test.YtpjahdiddgdahaaActs
import Derived.Test.YtpjahdiddgdahaaRtt
import Derived.WideShapes
namespace Go.Proofs.Ytpjahdiddgdahaa
open Go.ChangeShapes Go.WideShapes Go.Deep Go.RowKit
set_option linter.unusedVariables false

theorem c33 : Try.prog.cellsOf 33 = 5 := by kernel_rfl

theorem open_rtt {H : Type} {enc : TypeId × Value → H} {w : World} {base : Nat} {held : Bool} {r : Reach} {b0 : Nat} {v : Value} {d : DataW H} {p : List MemPlace} (hv : Value.okWide Try.prog w r b0 33 v) (h : DataW.Trod enc Try.prog w base (fun _ => true) held 33 v d p) :
    ∃ (l le s va : Int) (b : Bool), v = rv l le s va b ∧ (0 ≤ l ∧ l ≤ 18446744073709551615) ∧ 0 ≤ s ∧ s ≤ 18446744073709551615 := by
  obtain ⟨cs, rfl, hsz⟩ := okWide_struct Try.underlying33 hv
  obtain ⟨fuel, hf⟩ := h
  obtain ⟨xs, n, _, _, hl, hxl, hg⟩ := DataW.trod_struct Try.underlying33 hf
  rw [c33] at hsz
  obtain ⟨cl⟩ := cs
  match cl, hsz with
  | [v0, v1, v2, v3, v4], _ =>
    have hx : xs.length = 5 := hxl
    have get : ∀ (i : Nat), i < xs.length → ∃ y, xs[i]? = some y := fun i hi => ⟨xs[i], List.getElem?_eq_getElem hi⟩
    have t0 : DataW.trod enc Try.prog w base (fun _ => true) held n 27 (([v0, v1, v2, v3, v4].drop 0).take (Try.prog.cellsOf 27)) = xs[0]? := hg 0 _ rfl
    have t1 : DataW.trod enc Try.prog w base (fun _ => true) held n 27 (([v0, v1, v2, v3, v4].drop 1).take (Try.prog.cellsOf 27)) = xs[1]? := hg 1 _ rfl
    have t2 : DataW.trod enc Try.prog w base (fun _ => true) held n 27 (([v0, v1, v2, v3, v4].drop 2).take (Try.prog.cellsOf 27)) = xs[2]? := hg 2 _ rfl
    have t3 : DataW.trod enc Try.prog w base (fun _ => true) held n 27 (([v0, v1, v2, v3, v4].drop 3).take (Try.prog.cellsOf 27)) = xs[3]? := hg 3 _ rfl
    have t4 : DataW.trod enc Try.prog w base (fun _ => true) held n 4 (([v0, v1, v2, v3, v4].drop 4).take (Try.prog.cellsOf 4)) = xs[4]? := hg 4 _ rfl
    simp only [c27, c4, List.drop_succ_cons, List.drop_zero, List.take_succ_cons, List.take_zero] at t0 t1 t2 t3 t4
    obtain ⟨y0, e0⟩ := get 0 (by omega)
    obtain ⟨y1, e1⟩ := get 1 (by omega)
    obtain ⟨y2, e2⟩ := get 2 (by omega)
    obtain ⟨y3, e3⟩ := get 3 (by omega)
    obtain ⟨y4, e4⟩ := get 4 (by omega)
    rw [e0] at t0
    rw [e1] at t1
    rw [e2] at t2
    rw [e3] at t3
    rw [e4] at t4
    obtain ⟨l, q0, _, w0⟩ := DataW.trod_int Try.underlying27 t0
    obtain ⟨le, q1, _, w1⟩ := DataW.trod_int Try.underlying27 t1
    obtain ⟨s, q2, _, w2⟩ := DataW.trod_int Try.underlying27 t2
    obtain ⟨va, q3, _, w3⟩ := DataW.trod_int Try.underlying27 t3
    obtain ⟨b, q4, _⟩ := DataW.trod_bool Try.underlying4 t4
    simp at q0 q1 q2 q3 q4
    subst q0 q1 q2 q3 q4
    exact ⟨l, le, s, va, b, rfl, bounds_u64 w0, bounds_u64 w2⟩
end Go.Proofs.Ytpjahdiddgdahaa
