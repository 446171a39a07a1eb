/- A region that draws its order, whose last operation waits for all the others, which only read, or call what leaves what was there as it is. -/
import Derived.Test.YtpjahdiddgdahaaCls
namespace Go.Proofs.Ytpjahdiddgdahaa
open Go.RowKit
set_option linter.unusedVariables false

theorem wpAnyH_true {P : Program} {md : Region.Mode} {ops : Array Oper} {Q : Exit → Act → World → Prop} : ∀ (fuel : Nat) (listed : Array Bool) (a : Act) (w : World), wpAny P md ops Q fuel listed a w → wpAnyH P md ops Q (fun _ => True) fuel listed a w
  | 0, _, _, _, h => h
  | fuel + 1, _, _, _, h => ⟨h.1, fun i hi => wpOp_mono (fun a' w' h' => ⟨trivial, wpAnyH_true fuel _ a' w' h'⟩) (h.2 i hi)⟩

theorem struck_size (ops : Array Oper) (n : Nat) : (struck ops n).size = ops.size := by unfold struck; split <;> simp

theorem wp_region_grown_last {w : World} {I : Type} {F : I → World} (hF : Grown w F) {id : Nat} {Q : Exit → Act → World → Prop} {a : Act} {ops : Array Oper} (n : Nat) (hn : ops.size = n + 1) (hL : lastB ops n = true) (hB : Region.lexB .any (struck ops n) = true)
    (h : wpQuiet Try.prog (struck ops n) (fun w' => ∃ n, w' = F n) (fun a' => ∀ w', (∃ n, w' = F n) → endQ Try.prog ops Q n .normal a' w') (struck ops n).toList a) : (Code.region id ops true).wp Try.prog Q a w := by
  refine wp_region_last (S := fun _ => True) n (by kernel_rfl) hn hL (wpAnyH_true _ _ _ _ ?_)
  simp only [Region.lexB, Bool.and_eq_true] at hB
  have hs : (struck ops n).toList.length = n + 1 := by rw [Array.length_toList, struck_size, hn]
  have h1 := wpAnyQ_lex (C := fun w' => ∃ n, w' = F n) (md := .any) hB.1 (struck ops n).toList 0 (Array.replicate (struck ops n).size false) a (by simp) (by simpa using hB.2) h
  have h2 := wpAny_of_quiet (Q' := endQ Try.prog ops Q n) (Q := fun a' => ∀ w', (∃ n, w' = F n) → endQ Try.prog ops Q n .normal a' w') (fun a w' hw' h => h w' hw') _ _ a w.drew (hF.2 _ (Below.refl _ w).drew) h1
  rw [hs, struck_size, hn] at h2
  exact h2
end Go.Proofs.Ytpjahdiddgdahaa
