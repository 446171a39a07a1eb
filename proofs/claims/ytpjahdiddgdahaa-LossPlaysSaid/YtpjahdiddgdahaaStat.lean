/- LossPlays: what is known between its pieces: of the frame's slots, of memory, of the numbers. -/
import Derived.Test.YtpjahdiddgdahaaPlay
namespace Go.Proofs.Ytpjahdiddgdahaa
open Go.RowKit
set_option linter.unusedVariables false

/-- The round trip in block R. -/
def RV (w : World) (R : Nat) (l le s va : Int) (b : Bool) : Prop := w.heap[R]? = some (.cells #[.int .u64 l, .int .u64 le, .int .u64 s, .int .u64 va, .bool b] 33 (0, 0))
theorem RV.lt {w : World} {R : Nat} {l le s va : Int} {b : Bool} (h : RV w R l le s va b) : R < w.heap.size := (Array.getElem?_eq_some_iff.1 h).1
theorem RV.below {w w' : World} {R : Nat} {l le s va : Int} {b : Bool} (h : RV w R l le s va b) (hb : Below w.heap.size w w') : RV w' R l le s va b := by
  unfold RV at *
  rw [hb.block R (Array.getElem?_eq_some_iff.1 h).1]; exact h
theorem RV.cells {w : World} {R : Nat} {l le s va : Int} {b : Bool} (h : RV w R l le s va b) :
    w.cell? ⟨R, 0, none⟩ = some (.int .u64 l) ∧ w.cell? ⟨R, 1, none⟩ = some (.int .u64 le) ∧ w.cell? ⟨R, 2, none⟩ = some (.int .u64 s) ∧ w.cell? ⟨R, 3, none⟩ = some (.int .u64 va) ∧ w.cell? ⟨R, 4, none⟩ = some (.bool b) := by
  unfold RV at h
  simp [World.cell?, h]
theorem RV.kp {w w' : World} {S : Nat → Prop} {R : Nat} {l le s va : Int} {b : Bool} (h : RV w R l le s va b) (hk : Kp w w' S) (hR : ¬ S R) : RV w' R l le s va b := by
  unfold RV at *
  rw [hk.block R (Array.getElem?_eq_some_iff.1 h).1 hR]; exact h

/-- The slots that live from round to round. -/
structure Sl (a : Act) (R L : Nat) (mv : Value) (mk nx nw lt la : Int) (wt : Bool) (ac : Value) (len k : Nat) : Prop where
  size : a.tmps.size = 493
  nd : a.defers = []
  s3 : a.eval (.tmp 3) = .pointer (some ⟨R, 0, none⟩)
  s5 : a.eval (.tmp 5) = .pointer (some ⟨L, 0, none⟩)
  s6 : a.eval (.tmp 6) = mv
  s7 : a.eval (.tmp 7) = .int .i64 mk
  s8 : a.eval (.tmp 8) = .int .u64 nx
  s9 : a.eval (.tmp 9) = .int .u64 nw
  s10 : a.eval (.tmp 10) = .int .u64 lt
  s11 : a.eval (.tmp 11) = .int .u64 la
  s12 : a.eval (.tmp 12) = .bool wt
  s64 : a.eval (.tmp 64) = ac
  s65 : a.eval (.tmp 65) = .int .i64 len
  s66 : a.eval (.tmp 66) = .int .i64 k

/-- Memory. -/
structure Mm (w0 : World) (L R : Nat) (rl re rs rva : Int) (v mv : Value) (ps : List Pk) (so wt : Bool) (ak la ls : Int) (w : World) : Prop where
  led : Led w L v ps so ak wt la ls
  row : Rw w (L + 1) mv ps
  rv : RV w R rl re rs rva true
  be : Below w0.heap.size w0 w
  ne : ∀ g, mv.ownBlock = some g → v.ownBlock ≠ some g
  hR : w0.heap.size ≤ R
  hL : R < L

theorem Mm.below {w0 w w' : World} {L R : Nat} {rl re rs rva : Int} {v mv : Value} {ps : List Pk} {so wt : Bool} {ak la ls : Int} (h : Mm w0 L R rl re rs rva v mv ps so wt ak la ls w) (hb : Below w.heap.size w w') :
    Mm w0 L R rl re rs rva v mv ps so wt ak la ls w' :=
  ⟨h.led.below hb, h.row.below hb, h.rv.below hb, h.be.trans (hb.mono h.be.size), h.ne, h.hR, h.hL⟩

/-- The numbers, behind k acts. -/
structure Nm (ps : List Pk) (so : Bool) (ak nx nw : Int) (k : Nat) : Prop where
  rise : Rise ps
  fits : ∀ p ∈ ps, (0 ≤ p.n ∧ p.n < nx) ∧ (0 ≤ p.a ∧ p.a ≤ nw) ∧ 0 ≤ p.s ∧ p.s ≤ 65535
  len : ps.length ≤ k
  ak0 : 0 ≤ ak
  ak1 : so = true → ak < nx
  ak2 : ak ≤ 1152921504606846976
  nx0 : 0 ≤ nx
  nx1 : nx ≤ 1152921504606846977
  nw0 : 0 ≤ nw
  nw1 : nw ≤ 65535 * k
  k1 : k ≤ 101

def mkOf (so : Bool) (ak : Int) : Int := if so then ak else -1
theorem fits_of {ps : List Pk} {so : Bool} {ak nx nw : Int} {k : Nat} (h : Nm ps so ak nx nw k) : ∀ p ∈ ps, Fits p := fun p hp => by
  have h1 := h.fits p hp
  have h2 := h.nx1
  have h3 := h.nw1
  have h4 := h.k1
  exact ⟨by omega, by omega, by omega, by omega⟩
end Go.Proofs.Ytpjahdiddgdahaa
