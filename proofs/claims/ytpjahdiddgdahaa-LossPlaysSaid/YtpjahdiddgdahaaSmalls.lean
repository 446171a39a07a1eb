/- How a slice of small numbers reads: cell by cell. -/
import Derived.Test.YtpjahdiddgdahaaBase
import Derived.Deep.Slices
import Derived.Deep.Fields
import Derived.ChangeSame
import Derived.ProofKit
import Derived.OpenShut
namespace Go.Proofs.Ytpjahdiddgdahaa
open Go.ChangeShapes Go.WideShapes Go.Deep Go.RowKit
section
variable {H : Type} {enc : TypeId × Value → H} {P : Program} {w : World} {base : Nat} {spare : Nat → Bool} {held : Bool}

/-- A slice whose elements are of one cell each: where it lies, and that each cell reads. -/
theorem open_row1 {t e : TypeId} {fuel : Nat} {a : Option Addr} {len cap : Nat} {x : DataW H × List MemPlace} (ht : P.underlying t = some (.slice e)) (hC : P.cellsOf e = 1)
    (h : DataW.trod enc P w base (fun _ => true) held fuel t [.slice a len cap] = some x) :
    (len ≤ maxLen) ∧ ∀ i, i < len → ∃ b off n v y, a = some ⟨b, off, none⟩ ∧ b < w.heap.size ∧ w.cell? ⟨b, off + i, none⟩ = some v ∧ DataW.trod enc P w base (fun _ => true) held n e [v] = some y := by
  rcases open_slice ht h with h0 | ⟨ad, l, c, m, n, D, Pl, hcs, _, hl, hm, hmm, _, hi⟩
  · have h1 := h0.1
    simp at h1
    exact ⟨by omega, fun i hi => by omega⟩
  · simp at hcs
    obtain ⟨rfl, rfl, rfl⟩ := hcs
    simp at hmm
    subst hmm
    have hcell : ∀ i, i < m → ∃ v y, w.cell? (ad.add i) = some v ∧ DataW.trod enc P w base (fun _ => true) held n e [v] = some y := by
      intro i him
      obtain ⟨cs', hc, ht'⟩ := hi i him
      rw [hC] at hc
      obtain ⟨_, hcl, hat⟩ := World.cells?_some hc
      match cs', hcl with
      | [v], _ =>
        have h2 := hat 0 (by omega)
        rw [Nat.mul_one] at h2
        exact ⟨v, _, by simpa [Addr.add] using h2, ht'⟩
    refine ⟨by omega, fun i hil => ?_⟩
    obtain ⟨v0, y0, e0, _⟩ := hcell 0 (by omega)
    obtain ⟨b, off, spot⟩ := ad
    have hspot : spot = none := by simpa [Addr.add] using World.cell?_spot e0
    subst hspot
    have hb := block_lt_of_cell e0
    obtain ⟨v, y, e1, t1⟩ := hcell i (by omega)
    refine ⟨b, off, n, v, y, rfl, by simpa [Addr.add] using hb, ?_, t1⟩
    unfold Addr.add at e1
    split at e1
    · subst i; exact e1
    · exact e1

theorem open_u8s {fuel : Nat} {a : Option Addr} {len cap : Nat} {x : DataW H × List MemPlace} (h : DataW.trod enc Try.prog w base (fun _ => true) held fuel 22 [.slice a len cap] = some x) :
    ∃ zs : Nat → Int, len ≤ maxLen ∧ (∀ i, i < len → ∃ b off, a = some ⟨b, off, none⟩ ∧ b < w.heap.size ∧ w.cell? ⟨b, off + i, none⟩ = some (.int .u8 (zs i))) ∧ ∀ i, i < len → 0 ≤ zs i ∧ zs i ≤ 255 := by
  obtain ⟨hm, hi⟩ := open_row1 Try.underlying22 (by kernel_rfl) h
  have hall : ∀ i, ∃ z : Int, i < len → (∃ b off, a = some ⟨b, off, none⟩ ∧ b < w.heap.size ∧ w.cell? ⟨b, off + i, none⟩ = some (.int .u8 z)) ∧ 0 ≤ z ∧ z ≤ 255 := by
    intro i
    by_cases hlt : i < len
    · obtain ⟨b, off, n, v, y, ha, hb, hc, ht⟩ := hi i hlt
      obtain ⟨z, q, _, wz⟩ := DataW.trod_int Try.underlying5 ht
      simp at q
      subst q
      exact ⟨z, fun _ => ⟨⟨b, off, ha, hb, hc⟩, bounds_u8 wz⟩⟩
    · exact ⟨0, fun h => absurd h hlt⟩
  obtain ⟨F, hF⟩ := Classical.axiomOfChoice hall
  exact ⟨F, hm, fun i hi => (hF i hi).1, fun i hi => (hF i hi).2⟩

theorem open_u16s {fuel : Nat} {a : Option Addr} {len cap : Nat} {x : DataW H × List MemPlace} (h : DataW.trod enc Try.prog w base (fun _ => true) held fuel 46 [.slice a len cap] = some x) :
    ∃ zs : Nat → Int, len ≤ maxLen ∧ (∀ i, i < len → ∃ b off, a = some ⟨b, off, none⟩ ∧ b < w.heap.size ∧ w.cell? ⟨b, off + i, none⟩ = some (.int .u16 (zs i))) ∧ ∀ i, i < len → 0 ≤ zs i ∧ zs i ≤ 65535 := by
  obtain ⟨hm, hi⟩ := open_row1 Try.underlying46 (by kernel_rfl) h
  have hall : ∀ i, ∃ z : Int, i < len → (∃ b off, a = some ⟨b, off, none⟩ ∧ b < w.heap.size ∧ w.cell? ⟨b, off + i, none⟩ = some (.int .u16 z)) ∧ 0 ≤ z ∧ z ≤ 65535 := by
    intro i
    by_cases hlt : i < len
    · obtain ⟨b, off, n, v, y, ha, hb, hc, ht⟩ := hi i hlt
      obtain ⟨z, q, _, wz⟩ := DataW.trod_int Try.underlying47 ht
      simp at q
      subst q
      exact ⟨z, fun _ => ⟨⟨b, off, ha, hb, hc⟩, bounds_u16 wz⟩⟩
    · exact ⟨0, fun h => absurd h hlt⟩
  obtain ⟨F, hF⟩ := Classical.axiomOfChoice hall
  exact ⟨F, hm, fun i hi => (hF i hi).1, fun i hi => (hF i hi).2⟩

end
end Go.Proofs.Ytpjahdiddgdahaa
