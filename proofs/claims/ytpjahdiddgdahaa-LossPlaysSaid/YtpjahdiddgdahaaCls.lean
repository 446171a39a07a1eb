/- A region that draws its order, whose operations only read and whose callees leave what was there as it is: one walk of the text's order. -/
import Derived.Test.YtpjahdiddgdahaaDrop
import Derived.Deep.QuietTactic
import Derived.BigQuiet
namespace Go.Proofs.Ytpjahdiddgdahaa
open Go.RowKit
set_option linter.unusedVariables false

/-- Every world that grows out of w, numbered. -/
def Grown (w : World) {I : Type} (F : I → World) : Prop := (∀ n, Below w.heap.size w (F n)) ∧ ∀ w', Below w.heap.size w w' → ∃ n, w' = F n
theorem grown_of (w : World) : ∃ (I : Type) (F : I → World), Grown w F :=
  ⟨{ w' : World // Below w.heap.size w w' }, Subtype.val, fun n => n.2, fun w' h => ⟨⟨w', h⟩, rfl⟩⟩
theorem Grown.non {w : World} {I : Type} {F : I → World} (h : Grown w F) : Nonempty I := let ⟨n, _⟩ := h.2 w (Below.refl _ w); ⟨n⟩
theorem Grown.more {w : World} {I : Type} {F : I → World} (h : Grown w F) (n : I) {w' : World} (hb : Below (F n).heap.size (F n) w') : ∃ m, w' = F m :=
  h.2 w' ((h.1 n).trans (hb.mono (h.1 n).size))
theorem wp_region_grown {w : World} {I : Type} {F : I → World} (hF : Grown w F) {id : Nat} {Q : Exit → Act → World → Prop} {a : Act} {l : List Oper} (hB : Region.lexB .any l.toArray = true)
    (h : wpQuiet Try.prog l.toArray (fun w' => ∃ n, w' = F n) (fun a' => ∀ w', (∃ n, w' = F n) → Q .normal a' w') l a) : (Code.region id l.toArray true).wp Try.prog Q a w :=
  wp_region_quiet (C := fun w' => ∃ n, w' = F n) (by kernel_rfl) hB (hF.2 _ (Below.refl _ w).drew) (by simpa using h)
theorem Grown.cell {w : World} {I : Type} {F : I → World} (h : Grown w F) {b o : Nat} {v : Value} (hc : w.cell? ⟨b, o, none⟩ = some v) : ∀ n, (F n).cell? ⟨b, o, none⟩ = some v := fun n => by
  have hb : b < w.heap.size := by
    cases hg : w.heap[b]? with
    | none => simp [World.cell?, hg] at hc
    | some o => exact (Array.getElem?_eq_some_iff.1 hg).1
  rw [(h.1 n).cell (p := ⟨b, o, none⟩) hb]; exact hc
theorem Grown.lost {w : World} {I : Type} {F : I → World} (h : Grown w F) (n : I) (l le s v : Int) (b : Bool) (hl : 0 ≤ l) (hl2 : l ≤ 1125899906842624) (hs : 0 ≤ s) (hs2 : s ≤ 1125899906842624) {wait : Int} (hw : Hid (wait = max (9 * max s l / 8) 1000)) :
    Calls Try.prog 13 #[rv l le s v b] (F n) fun e w' => e = .returned (.int .u64 wait) ∧ ∃ m, w' = F m := by
  refine (rtt_lost l le s v b (F n) hl hl2 hs hs2).mono ?_
  rintro e w' ⟨rfl, hb⟩
  exact ⟨by rw [hw.out], h.more n hb⟩
end Go.Proofs.Ytpjahdiddgdahaa
