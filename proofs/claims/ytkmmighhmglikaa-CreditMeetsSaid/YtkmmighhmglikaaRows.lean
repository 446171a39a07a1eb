/-
  No cell of these rows narrows 'for every input' (looked for: loops, veiled, ifaces, maps, wideKeys, modest, calm, conditions, laid).
  DERIVED. THE GIVEN ROWS OF THIS SEAT. 3 by the template 'for every input the law returns true; each argument reads behind the call as it read before'; 0 by the template 'total and deterministic' (their statements: YtkmmighhmglikaaTotals.lean).
  GIVEN WITH THE SEED: the statements are not yours to turn. If you find one false, say at which input.
  Laid BY PROGRAM, IN A SANDBOX (cutbox-rows.mjs): the forced cells as the released guide's own fill.sh prints them over the translation 49ac7c22428c3969… (all of the seat's roots in one cut). By AI agents, Wed Nov 11 2026. No macro, syntax, notation, axiom, sorry.
-/
import Derived.Test.YtkmmighhmglikaaChecked
import GoSem.Claim
import GoSem.ClaimJoined
import GoSem.ClaimMapViews
import Derived.JoinedTies
import Derived.KernelRfl
namespace Go.Proofs.Ytkmmighhmglikaa
/- THE CELL 'sum', in the pinned program and in every row, IS THE sha256 OF THE DUMP (.gsa) THAT YtkmmighhmglikaaProg.lean LOADS. Nothing in Lean hashes anything: it is a label: what it is worth is what the hold of that sum in a sandbox is worth. -/
noncomputable def Try.pinned : Pinned := { name := "ytkmmighhmglikaa", sum := "49ac7c22428c396985272d927fcfcff24726e247e8f2eec4bc79855d21991e3a", checked := Try.checked }
namespace Rows
def none {H : Type} : Left H := { results := [], args := [] }

/-- 'binnaclelaw20.CreditGives': WHATEVER THE INPUT: true; the input reads as it did. -/
def creditGivesSpec : ChangeSpec := { name := "creditGives", fn := fun _ => fun
  | [d1, d2] => { results := [.lit (.bool true)], args := [d1, d2] }
  | _ => none }
def creditGivesRow : OpenClaim := { program := "ytkmmighhmglikaa", sum := "49ac7c22428c396985272d927fcfcff24726e247e8f2eec4bc79855d21991e3a", func := "binnacle/binnaclelaw20.CreditGives", spec := "creditGives", apart := false }
def CreditGivesSaid : Prop := creditGivesRow.holds Try.pinned (OpenSpec.ofChange creditGivesSpec)

/-- ITS FALSE NEIGHBOUR: 'it returns false'. Refute it at one input. -/
def creditGivesWrong : ChangeSpec := { name := "creditGives", fn := fun _ => fun
  | [d1, d2] => { results := [.lit (.bool false)], args := [d1, d2] }
  | _ => none }
def CreditGivesWrongFalsely : Prop := creditGivesRow.holds Try.pinned (OpenSpec.ofChange creditGivesWrong)

/-- 'binnaclelaw20.CreditMeets': WHATEVER THE INPUT: true; the input reads as it did. -/
def creditMeetsSpec : ChangeSpec := { name := "creditMeets", fn := fun _ => fun
  | [d1, d2, d3] => { results := [.lit (.bool true)], args := [d1, d2, d3] }
  | _ => none }
def creditMeetsRow : OpenClaim := { program := "ytkmmighhmglikaa", sum := "49ac7c22428c396985272d927fcfcff24726e247e8f2eec4bc79855d21991e3a", func := "binnacle/binnaclelaw20.CreditMeets", spec := "creditMeets", apart := false }
def CreditMeetsSaid : Prop := creditMeetsRow.holds Try.pinned (OpenSpec.ofChange creditMeetsSpec)

/-- ITS FALSE NEIGHBOUR: 'it returns false'. Refute it at one input. -/
def creditMeetsWrong : ChangeSpec := { name := "creditMeets", fn := fun _ => fun
  | [d1, d2, d3] => { results := [.lit (.bool false)], args := [d1, d2, d3] }
  | _ => none }
def CreditMeetsWrongFalsely : Prop := creditMeetsRow.holds Try.pinned (OpenSpec.ofChange creditMeetsWrong)

/-- 'binnaclelaw20.CreditGets': WHATEVER THE INPUT: true; the input reads as it did. -/
def creditGetsSpec : ChangeSpec := { name := "creditGets", fn := fun _ => fun
  | [d] => { results := [.lit (.bool true)], args := [d] }
  | _ => none }
def creditGetsRow : OpenClaim := { program := "ytkmmighhmglikaa", sum := "49ac7c22428c396985272d927fcfcff24726e247e8f2eec4bc79855d21991e3a", func := "binnacle/binnaclelaw20.CreditGets", spec := "creditGets", apart := false }
def CreditGetsSaid : Prop := creditGetsRow.holds Try.pinned (OpenSpec.ofChange creditGetsSpec)

/-- ITS FALSE NEIGHBOUR: 'it returns false'. Refute it at one input. -/
def creditGetsWrong : ChangeSpec := { name := "creditGets", fn := fun _ => fun
  | [d] => { results := [.lit (.bool false)], args := [d] }
  | _ => none }
def CreditGetsWrongFalsely : Prop := creditGetsRow.holds Try.pinned (OpenSpec.ofChange creditGetsWrong)

/- THE SECOND FORM. 'bulk': how many values and letters a reading holds, each counted each time it is reached (what is shared counts as often as it is met; a slice's spare places count too). A statement '..UptoSaid' is the law's where the arguments, and the package variables that the reading takes, are together of bulk at most 1048576: NARROWER than '..Said'. Prove '..Said' where nothing that the law and all that it calls make is longer than what came in: it says more and counts as full. Else prove '..UptoSaid'. A law counts once. -/
mutual
def uptoBulk {H : Type} : DataW H → Nat
  | .lit (.string bytes) => bytes.length + 1
  | .lit _ => 1
  | .nil => 1
  | .ptr d => uptoBulk d + 1
  | .slice elems spare => uptoBulkAll elems + uptoBulkAll spare + 1
  | .agg parts => uptoBulkAll parts + 1
  | .iface _ d => uptoBulk d + 1
  | .map entries => uptoBulkEntries entries + 1
  | .held _ => 1
def uptoBulkAll {H : Type} : List (DataW H) → Nat
  | [] => 0
  | d :: r => uptoBulk d + uptoBulkAll r
def uptoBulkEntries {H : Type} : List (Lit × DataW H) → Nat
  | [] => 0
  | x :: r => uptoBulkEntry x + uptoBulkEntries r
def uptoBulkEntry {H : Type} : Lit × DataW H → Nat
  | (.string bytes, d) => bytes.length + uptoBulk d + 1
  | (_, d) => uptoBulk d + 1
 end
def uptoSmall : (H : Type) → List (DataW H) → Bool := fun _ ds => decide (uptoBulkAll ds ≤ 1048576)
def OpenSpec.upto (s : _root_.Go.ChangeSpec) : _root_.Go.OpenSpec := { _root_.Go.OpenSpec.ofChange s with cond := some uptoSmall }

/-- 'binnaclelaw20.CreditGives', WHERE WHAT IT READS IS OF BULK AT MOST 1048576: true; the input reads as it did. -/
def creditGivesUptoRow : OpenClaim := { program := "ytkmmighhmglikaa", sum := "49ac7c22428c396985272d927fcfcff24726e247e8f2eec4bc79855d21991e3a", func := "binnacle/binnaclelaw20.CreditGives", spec := "creditGives", apart := false, narrowed := true }
def CreditGivesUptoSaid : Prop := creditGivesUptoRow.holds Try.pinned (OpenSpec.upto creditGivesSpec)

/-- 'binnaclelaw20.CreditMeets', WHERE WHAT IT READS IS OF BULK AT MOST 1048576: true; the input reads as it did. -/
def creditMeetsUptoRow : OpenClaim := { program := "ytkmmighhmglikaa", sum := "49ac7c22428c396985272d927fcfcff24726e247e8f2eec4bc79855d21991e3a", func := "binnacle/binnaclelaw20.CreditMeets", spec := "creditMeets", apart := false, narrowed := true }
def CreditMeetsUptoSaid : Prop := creditMeetsUptoRow.holds Try.pinned (OpenSpec.upto creditMeetsSpec)

/-- 'binnaclelaw20.CreditGets', WHERE WHAT IT READS IS OF BULK AT MOST 1048576: true; the input reads as it did. -/
def creditGetsUptoRow : OpenClaim := { program := "ytkmmighhmglikaa", sum := "49ac7c22428c396985272d927fcfcff24726e247e8f2eec4bc79855d21991e3a", func := "binnacle/binnaclelaw20.CreditGets", spec := "creditGets", apart := false, narrowed := true }
def CreditGetsUptoSaid : Prop := creditGetsUptoRow.holds Try.pinned (OpenSpec.upto creditGetsSpec)

end Rows
end Go.Proofs.Ytkmmighhmglikaa
