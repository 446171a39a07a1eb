/-
  No cell of these rows narrows 'for every input' (looked for: loops, veiled, ifaces, maps, wideKeys, modest, calm, conditions, laid).
  DERIVED. THE GIVEN ROWS OF THIS SEAT. 3 by the template 'for every input the law returns true; each argument reads behind the call as it read before'; 0 by the template 'total and deterministic' (their statements: YtpjahdiddgdahaaTotals.lean).
  GIVEN WITH THE SEED: the statements are not yours to turn. If you find one false, say at which input.
  Laid BY PROGRAM, IN A SANDBOX (cutbox-rows.mjs): the forced cells as the released guide's own fill.sh prints them over the translation a832790a35d66841… (all of the seat's roots in one cut). By AI agents, Wed Nov 11 2026. No macro, syntax, notation, axiom, sorry.
-/
import Derived.Test.YtpjahdiddgdahaaChecked
import GoSem.Claim
import GoSem.ClaimJoined
import GoSem.ClaimMapViews
import Derived.JoinedTies
import Derived.KernelRfl
namespace Go.Proofs.Ytpjahdiddgdahaa
/- THE CELL 'sum', in the pinned program and in every row, IS THE sha256 OF THE DUMP (.gsa) THAT YtpjahdiddgdahaaProg.lean LOADS. Nothing in Lean hashes anything: it is a label: what it is worth is what the hold of that sum in a sandbox is worth. -/
noncomputable def Try.pinned : Pinned := { name := "ytpjahdiddgdahaa", sum := "a832790a35d66841a3a7caae1adf119abeb8e50fd28180d4b3a723c1765fbd90", checked := Try.checked }
namespace Rows
def none {H : Type} : Left H := { results := [], args := [] }

/-- 'binnaclelaw19.LossRules': WHATEVER THE INPUT: true; the input reads as it did. -/
def lossRulesSpec : ChangeSpec := { name := "lossRules", fn := fun _ => fun
  | [d1, d2, d3] => { results := [.lit (.bool true)], args := [d1, d2, d3] }
  | _ => none }
def lossRulesRow : OpenClaim := { program := "ytpjahdiddgdahaa", sum := "a832790a35d66841a3a7caae1adf119abeb8e50fd28180d4b3a723c1765fbd90", func := "binnacle/binnaclelaw19.LossRules", spec := "lossRules", unfollowed := true, recurses := true, apart := false }
def LossRulesSaid : Prop := lossRulesRow.holds Try.pinned (OpenSpec.ofChange lossRulesSpec)

/-- ITS FALSE NEIGHBOUR: 'it returns false'. Refute it at one input. -/
def lossRulesWrong : ChangeSpec := { name := "lossRules", fn := fun _ => fun
  | [d1, d2, d3] => { results := [.lit (.bool false)], args := [d1, d2, d3] }
  | _ => none }
def LossRulesWrongFalsely : Prop := lossRulesRow.holds Try.pinned (OpenSpec.ofChange lossRulesWrong)

/-- 'binnaclelaw19.LossTimes': WHATEVER THE INPUT: true; the input reads as it did. -/
def lossTimesSpec : ChangeSpec := { name := "lossTimes", fn := fun _ => fun
  | [d1, d2, d3, d4] => { results := [.lit (.bool true)], args := [d1, d2, d3, d4] }
  | _ => none }
def lossTimesRow : OpenClaim := { program := "ytpjahdiddgdahaa", sum := "a832790a35d66841a3a7caae1adf119abeb8e50fd28180d4b3a723c1765fbd90", func := "binnacle/binnaclelaw19.LossTimes", spec := "lossTimes", unfollowed := true, recurses := true, apart := false }
def LossTimesSaid : Prop := lossTimesRow.holds Try.pinned (OpenSpec.ofChange lossTimesSpec)

/-- ITS FALSE NEIGHBOUR: 'it returns false'. Refute it at one input. -/
def lossTimesWrong : ChangeSpec := { name := "lossTimes", fn := fun _ => fun
  | [d1, d2, d3, d4] => { results := [.lit (.bool false)], args := [d1, d2, d3, d4] }
  | _ => none }
def LossTimesWrongFalsely : Prop := lossTimesRow.holds Try.pinned (OpenSpec.ofChange lossTimesWrong)

/-- 'binnaclelaw19.LossPlays': WHATEVER THE INPUT: true; the input reads as it did. -/
def lossPlaysSpec : ChangeSpec := { name := "lossPlays", fn := fun _ => fun
  | [d1, d2] => { results := [.lit (.bool true)], args := [d1, d2] }
  | _ => none }
def lossPlaysRow : OpenClaim := { program := "ytpjahdiddgdahaa", sum := "a832790a35d66841a3a7caae1adf119abeb8e50fd28180d4b3a723c1765fbd90", func := "binnacle/binnaclelaw19.LossPlays", spec := "lossPlays", unfollowed := true, recurses := true, apart := false }
def LossPlaysSaid : Prop := lossPlaysRow.holds Try.pinned (OpenSpec.ofChange lossPlaysSpec)

/-- ITS FALSE NEIGHBOUR: 'it returns false'. Refute it at one input. -/
def lossPlaysWrong : ChangeSpec := { name := "lossPlays", fn := fun _ => fun
  | [d1, d2] => { results := [.lit (.bool false)], args := [d1, d2] }
  | _ => none }
def LossPlaysWrongFalsely : Prop := lossPlaysRow.holds Try.pinned (OpenSpec.ofChange lossPlaysWrong)

/- THE SECOND FORM. 'bulk': how many values and letters a reading holds, each counted each time it is reached (what is shared counts as often as it is met; a slice's spare places count too). A statement '..UptoSaid' is the law's where the arguments, and the package variables that the reading takes, are together of bulk at most 1048576: NARROWER than '..Said'. Prove '..Said' where nothing that the law and all that it calls make is longer than what came in: it says more and counts as full. Else prove '..UptoSaid'. A law counts once. -/
mutual
def uptoBulk {H : Type} : DataW H → Nat
  | .lit (.string bytes) => bytes.length + 1
  | .lit _ => 1
  | .nil => 1
  | .ptr d => uptoBulk d + 1
  | .slice elems spare => uptoBulkAll elems + uptoBulkAll spare + 1
  | .agg parts => uptoBulkAll parts + 1
  | .iface _ d => uptoBulk d + 1
  | .map entries => uptoBulkEntries entries + 1
  | .held _ => 1
def uptoBulkAll {H : Type} : List (DataW H) → Nat
  | [] => 0
  | d :: r => uptoBulk d + uptoBulkAll r
def uptoBulkEntries {H : Type} : List (Lit × DataW H) → Nat
  | [] => 0
  | x :: r => uptoBulkEntry x + uptoBulkEntries r
def uptoBulkEntry {H : Type} : Lit × DataW H → Nat
  | (.string bytes, d) => bytes.length + uptoBulk d + 1
  | (_, d) => uptoBulk d + 1
 end
def uptoSmall : (H : Type) → List (DataW H) → Bool := fun _ ds => decide (uptoBulkAll ds ≤ 1048576)
def OpenSpec.upto (s : _root_.Go.ChangeSpec) : _root_.Go.OpenSpec := { _root_.Go.OpenSpec.ofChange s with cond := some uptoSmall }

/-- 'binnaclelaw19.LossRules', WHERE WHAT IT READS IS OF BULK AT MOST 1048576: true; the input reads as it did. -/
def lossRulesUptoRow : OpenClaim := { program := "ytpjahdiddgdahaa", sum := "a832790a35d66841a3a7caae1adf119abeb8e50fd28180d4b3a723c1765fbd90", func := "binnacle/binnaclelaw19.LossRules", spec := "lossRules", unfollowed := true, recurses := true, apart := false, narrowed := true }
def LossRulesUptoSaid : Prop := lossRulesUptoRow.holds Try.pinned (OpenSpec.upto lossRulesSpec)

/-- 'binnaclelaw19.LossTimes', WHERE WHAT IT READS IS OF BULK AT MOST 1048576: true; the input reads as it did. -/
def lossTimesUptoRow : OpenClaim := { program := "ytpjahdiddgdahaa", sum := "a832790a35d66841a3a7caae1adf119abeb8e50fd28180d4b3a723c1765fbd90", func := "binnacle/binnaclelaw19.LossTimes", spec := "lossTimes", unfollowed := true, recurses := true, apart := false, narrowed := true }
def LossTimesUptoSaid : Prop := lossTimesUptoRow.holds Try.pinned (OpenSpec.upto lossTimesSpec)

/-- 'binnaclelaw19.LossPlays', WHERE WHAT IT READS IS OF BULK AT MOST 1048576: true; the input reads as it did. -/
def lossPlaysUptoRow : OpenClaim := { program := "ytpjahdiddgdahaa", sum := "a832790a35d66841a3a7caae1adf119abeb8e50fd28180d4b3a723c1765fbd90", func := "binnacle/binnaclelaw19.LossPlays", spec := "lossPlays", unfollowed := true, recurses := true, apart := false, narrowed := true }
def LossPlaysUptoSaid : Prop := lossPlaysUptoRow.holds Try.pinned (OpenSpec.upto lossPlaysSpec)

end Rows
end Go.Proofs.Ytpjahdiddgdahaa
