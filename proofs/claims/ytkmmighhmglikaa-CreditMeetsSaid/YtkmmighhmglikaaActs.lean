/- How the law's argument, a slice of acts, reads: act by act, field by field. And an act's number. -/
import Derived.Test.YtkmmighhmglikaaCalls
import Derived.Deep.Slices
import Derived.Deep.Fields
import Derived.ChangeSame
import Derived.OpenShut
namespace Go.Proofs.Ytkmmighhmglikaa
open Go.ChangeShapes Go.WideShapes Go.Deep Go.RowKit
section
variable {H : Type} {enc : TypeId × Value → H} {P : Program} {w : World} {base : Nat} {spare : Nat → Bool} {held : Bool}
theorem open_slice_fields {t e : TypeId} {fs : Array Field} {fuel : Nat} {cs : List Value} {x : DataW H × List MemPlace} (ht : P.underlying t = some (.slice e)) (he : P.underlying e = some (.struct fs))
    (hone : oneCellFields P fs = true) (hC : P.cellsOf e = fs.size) (h : DataW.trod enc P w base spare held fuel t cs = some x) :
    (cs = [.slice none 0 0]) ∨
    ∃ (a : Addr) (len cap m : Nat), cs = [.slice (some a) len cap] ∧ len ≤ cap ∧ cap ≤ maxLen ∧ m = (if spare a.block then cap else len) ∧
      ∀ i, i < m → ∃ n, ∀ (j : Nat) (f : Field), fs[j]? = some f → ∃ (v : Value) (y : DataW H × List MemPlace), w.cell? (a.add (i * fs.size + j)) = some v ∧ DataW.trod enc P w base spare held n f.type [v] = some y := by
  rcases open_slice ht h with h0 | ⟨a, len, cap, m, n, D, Pl, hcs, _, hl, hm, hmm, _, hi⟩
  · exact .inl h0.1
  · refine .inr ⟨a, len, cap, m, hcs, hl, hm, hmm, fun i him => ?_⟩
    obtain ⟨cs', hc, ht'⟩ := hi i him
    rw [hC] at hc
    obtain ⟨ys, n', _, _, hlen, hyl, hf⟩ := DataW.trod_struct he ht'
    obtain ⟨_, hcl, hat⟩ := World.cells?_some hc
    refine ⟨n', fun j f hj => ?_⟩
    obtain ⟨ho, hk⟩ := hone_of hone j f hj
    have hjl : j < fs.size := (Array.getElem?_eq_some_iff.1 hj).1
    have hcell := hat j hjl
    have hv : cs'[j]? = some (cs'[j]'(by omega)) := List.getElem?_eq_getElem (by omega)
    have h1 := hf j f hj
    rw [ho, hk] at h1
    have hone' : (cs'.drop j).take 1 = [cs'[j]'(by omega)] := by
      rw [List.drop_eq_getElem_cons (by omega)]
      rfl
    rw [hone'] at h1
    have hys : ys[j]? = some (ys[j]'(by omega)) := List.getElem?_eq_getElem (by omega)
    refine ⟨_, _, ?_, h1.trans hys⟩
    rw [← Go.Deep.add_add, hcell, hv]

/-- What is known of a slice of acts. -/
def ActsAre (w : World) (a : Option Addr) (len : Nat) (K N X : Nat → Int) (R : Nat → Bool) : Prop :=
  len ≤ 9223372036854775807 ∧ ∀ i, i < len → ∃ b off, a = some ⟨b, off, none⟩ ∧ b < w.heap.size ∧
    w.cell? ⟨b, off + i * 4, none⟩ = some (.int .u8 (K i)) ∧ w.cell? ⟨b, off + i * 4 + 1, none⟩ = some (.int .u16 (N i)) ∧ w.cell? ⟨b, off + i * 4 + 2, none⟩ = some (.int .u64 (X i)) ∧ w.cell? ⟨b, off + i * 4 + 3, none⟩ = some (.bool (R i)) ∧
    (0 ≤ K i ∧ K i ≤ 255) ∧ (0 ≤ N i ∧ N i ≤ 65535) ∧ (0 ≤ X i ∧ X i ≤ 18446744073709551615)

theorem open_acts {fuel : Nat} {a : Option Addr} {len cap : Nat} {x : DataW H × List MemPlace} (h : DataW.trod enc Try.prog w base (fun _ => true) held fuel 23 [.slice a len cap] = some x) :
    ∃ K N X R, ActsAre w a len K N X R := by
  rcases open_slice_fields Try.underlying23 Try.underlying31 (by kernel_rfl) (by kernel_rfl) h with hcs | ⟨ad, len', cap', m, hcs, hl, hm, hmm, hi⟩
  · simp at hcs
    obtain ⟨_, rfl, _⟩ := hcs
    exact ⟨fun _ => 0, fun _ => 0, fun _ => 0, fun _ => false, by omega, fun i hi => by omega⟩
  · simp at hcs
    obtain ⟨rfl, rfl, rfl⟩ := hcs
    simp at hmm
    subst hmm
    unfold maxLen at hm
    have hall : ∀ i, ∃ q : Int × Int × Int × Bool, i < len → (w.cell? (ad.add (i * 4)) = some (.int .u8 q.1) ∧ w.cell? (ad.add (i * 4 + 1)) = some (.int .u16 q.2.1) ∧ w.cell? (ad.add (i * 4 + 2)) = some (.int .u64 q.2.2.1) ∧ w.cell? (ad.add (i * 4 + 3)) = some (.bool q.2.2.2)) ∧
        (0 ≤ q.1 ∧ q.1 ≤ 255) ∧ (0 ≤ q.2.1 ∧ q.2.1 ≤ 65535) ∧ (0 ≤ q.2.2.1 ∧ q.2.2.1 ≤ 18446744073709551615) := by
      intro i
      by_cases hlt : i < len
      · obtain ⟨n, hf⟩ := hi i (by omega)
        obtain ⟨v0, y0, e0, t0⟩ := hf 0 _ rfl
        obtain ⟨v1, y1, e1, t1⟩ := hf 1 _ rfl
        obtain ⟨v2, y2, e2, t2⟩ := hf 2 _ rfl
        obtain ⟨v3, y3, e3, t3⟩ := hf 3 _ rfl
        obtain ⟨n0, q0, _, w0⟩ := DataW.trod_int Try.underlying5 t0
        obtain ⟨n1, q1, _, w1⟩ := DataW.trod_int Try.underlying29 t1
        obtain ⟨n2, q2, _, w2⟩ := DataW.trod_int Try.underlying22 t2
        obtain ⟨n3, q3, _⟩ := DataW.trod_bool Try.underlying4 t3
        simp at q0 q1 q2 q3
        subst q0 q1 q2 q3
        exact ⟨(n0, n1, n2, n3), fun _ => ⟨⟨e0, e1, e2, e3⟩, bounds_u8 w0, bounds_u16 w1, bounds_u64 w2⟩⟩
      · exact ⟨(0, 0, 0, false), fun h => absurd h hlt⟩
    obtain ⟨F, hF⟩ := Classical.axiomOfChoice hall
    refine ⟨fun i => (F i).1, fun i => (F i).2.1, fun i => (F i).2.2.1, fun i => (F i).2.2.2, by omega, fun i hil => ?_⟩
    obtain ⟨b, off, spot⟩ := ad
    have h1 := (hF 0 (by omega)).1.1
    have hspot : spot = none := by simpa [Addr.add] using World.cell?_spot h1
    subst hspot
    have hb := block_lt_of_cell h1
    have hadd : ∀ n, (Addr.add ⟨b, off, none⟩ n) = ⟨b, off + n, none⟩ := fun n => by
      unfold Addr.add
      split
      · subst n; rfl
      · rfl
    simp only [hadd, ← Nat.add_assoc] at hF
    exact ⟨b, off, rfl, by simpa [Addr.add] using hb, (hF i hil).1.1, (hF i hil).1.2.1, (hF i hil).1.2.2.1, (hF i hil).1.2.2.2, (hF i hil).2.1, (hF i hil).2.2.1, (hF i hil).2.2.2⟩
end

/-- An act's number, whichever. -/
theorem number_any (k n x : Int) (b : Bool) (w : World) (hn : 0 ≤ n) (hn2 : n ≤ 65535) (hx : 0 ≤ x) (hx2 : x ≤ 18446744073709551615) :
    Calls Try.prog 8 #[.agg #[.int .u8 k, .int .u16 n, .int .u64 x, .bool b]] w fun e w' => ∃ y : Int, e = .returned (.int .u64 y) ∧ 0 ≤ y ∧ y ≤ 18446744073709551615 ∧ Below w.heap.size w w' := by
  cases b
  · exact (number_small k n x w hn hn2).mono fun e w' ⟨he, hb⟩ => ⟨_, he, by omega, by omega, hb⟩
  · exact (number_raw k n x w).mono fun e w' ⟨he, hb⟩ => ⟨_, he, hx, hx2, hb⟩
end Go.Proofs.Ytkmmighhmglikaa
