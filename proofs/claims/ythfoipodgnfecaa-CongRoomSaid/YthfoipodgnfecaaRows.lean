/-
  No cell of these rows narrows 'for every input' (looked for: loops, veiled, ifaces, maps, wideKeys, modest, calm, conditions, laid).
  DERIVED. THE GIVEN ROWS OF THIS SEAT. 3 by the template 'for every input the law returns true; each argument reads behind the call as it read before'; 0 by the template 'total and deterministic' (their statements: YthfoipodgnfecaaTotals.lean).
  GIVEN WITH THE SEED: the statements are not yours to turn. If you find one false, say at which input.
  Laid BY PROGRAM, IN A SANDBOX (cutbox-rows.mjs): the forced cells as the released guide's own fill.sh prints them over the translation 8790f5ba1872d444… (all of the seat's roots in one cut). By AI agents, Wed Nov 11 2026. No macro, syntax, notation, axiom, sorry.
-/
import Derived.Test.YthfoipodgnfecaaChecked
import GoSem.Claim
import GoSem.ClaimJoined
import GoSem.ClaimMapViews
import Derived.JoinedTies
import Derived.KernelRfl
namespace Go.Proofs.Ythfoipodgnfecaa
/- THE CELL 'sum', in the pinned program and in every row, IS THE sha256 OF THE DUMP (.gsa) THAT YthfoipodgnfecaaProg.lean LOADS. Nothing in Lean hashes anything: it is a label: what it is worth is what the hold of that sum in a sandbox is worth. -/
noncomputable def Try.pinned : Pinned := { name := "ythfoipodgnfecaa", sum := "8790f5ba1872d4442000f71ddce521b1227e6238726ad0da1d7fce66fc41ca74", checked := Try.checked }
namespace Rows
def none {H : Type} : Left H := { results := [], args := [] }

/-- 'binnaclelaw18.CongLosses': WHATEVER THE INPUT: true; the input reads as it did. -/
def congLossesSpec : ChangeSpec := { name := "congLosses", fn := fun _ => fun
  | [d1, d2, d3] => { results := [.lit (.bool true)], args := [d1, d2, d3] }
  | _ => none }
def congLossesRow : OpenClaim := { program := "ythfoipodgnfecaa", sum := "8790f5ba1872d4442000f71ddce521b1227e6238726ad0da1d7fce66fc41ca74", func := "binnacle/binnaclelaw18.CongLosses", spec := "congLosses", apart := false }
def CongLossesSaid : Prop := congLossesRow.holds Try.pinned (OpenSpec.ofChange congLossesSpec)

/-- ITS FALSE NEIGHBOUR: 'it returns false'. Refute it at one input. -/
def congLossesWrong : ChangeSpec := { name := "congLosses", fn := fun _ => fun
  | [d1, d2, d3] => { results := [.lit (.bool false)], args := [d1, d2, d3] }
  | _ => none }
def CongLossesWrongFalsely : Prop := congLossesRow.holds Try.pinned (OpenSpec.ofChange congLossesWrong)

/-- 'binnaclelaw18.CongGrows': WHATEVER THE INPUT: true; the input reads as it did. -/
def congGrowsSpec : ChangeSpec := { name := "congGrows", fn := fun _ => fun
  | [d1, d2] => { results := [.lit (.bool true)], args := [d1, d2] }
  | _ => none }
def congGrowsRow : OpenClaim := { program := "ythfoipodgnfecaa", sum := "8790f5ba1872d4442000f71ddce521b1227e6238726ad0da1d7fce66fc41ca74", func := "binnacle/binnaclelaw18.CongGrows", spec := "congGrows", apart := false }
def CongGrowsSaid : Prop := congGrowsRow.holds Try.pinned (OpenSpec.ofChange congGrowsSpec)

/-- ITS FALSE NEIGHBOUR: 'it returns false'. Refute it at one input. -/
def congGrowsWrong : ChangeSpec := { name := "congGrows", fn := fun _ => fun
  | [d1, d2] => { results := [.lit (.bool false)], args := [d1, d2] }
  | _ => none }
def CongGrowsWrongFalsely : Prop := congGrowsRow.holds Try.pinned (OpenSpec.ofChange congGrowsWrong)

/-- 'binnaclelaw18.CongRoom': WHATEVER THE INPUT: true; the input reads as it did. -/
def congRoomSpec : ChangeSpec := { name := "congRoom", fn := fun _ => fun
  | [d1, d2] => { results := [.lit (.bool true)], args := [d1, d2] }
  | _ => none }
def congRoomRow : OpenClaim := { program := "ythfoipodgnfecaa", sum := "8790f5ba1872d4442000f71ddce521b1227e6238726ad0da1d7fce66fc41ca74", func := "binnacle/binnaclelaw18.CongRoom", spec := "congRoom", apart := false }
def CongRoomSaid : Prop := congRoomRow.holds Try.pinned (OpenSpec.ofChange congRoomSpec)

/-- ITS FALSE NEIGHBOUR: 'it returns false'. Refute it at one input. -/
def congRoomWrong : ChangeSpec := { name := "congRoom", fn := fun _ => fun
  | [d1, d2] => { results := [.lit (.bool false)], args := [d1, d2] }
  | _ => none }
def CongRoomWrongFalsely : Prop := congRoomRow.holds Try.pinned (OpenSpec.ofChange congRoomWrong)

/- THE SECOND FORM. 'bulk': how many values and letters a reading holds, each counted each time it is reached (what is shared counts as often as it is met; a slice's spare places count too). A statement '..UptoSaid' is the law's where the arguments, and the package variables that the reading takes, are together of bulk at most 1048576: NARROWER than '..Said'. Prove '..Said' where nothing that the law and all that it calls make is longer than what came in: it says more and counts as full. Else prove '..UptoSaid'. A law counts once. -/
mutual
def uptoBulk {H : Type} : DataW H → Nat
  | .lit (.string bytes) => bytes.length + 1
  | .lit _ => 1
  | .nil => 1
  | .ptr d => uptoBulk d + 1
  | .slice elems spare => uptoBulkAll elems + uptoBulkAll spare + 1
  | .agg parts => uptoBulkAll parts + 1
  | .iface _ d => uptoBulk d + 1
  | .map entries => uptoBulkEntries entries + 1
  | .held _ => 1
def uptoBulkAll {H : Type} : List (DataW H) → Nat
  | [] => 0
  | d :: r => uptoBulk d + uptoBulkAll r
def uptoBulkEntries {H : Type} : List (Lit × DataW H) → Nat
  | [] => 0
  | x :: r => uptoBulkEntry x + uptoBulkEntries r
def uptoBulkEntry {H : Type} : Lit × DataW H → Nat
  | (.string bytes, d) => bytes.length + uptoBulk d + 1
  | (_, d) => uptoBulk d + 1
 end
def uptoSmall : (H : Type) → List (DataW H) → Bool := fun _ ds => decide (uptoBulkAll ds ≤ 1048576)
def OpenSpec.upto (s : _root_.Go.ChangeSpec) : _root_.Go.OpenSpec := { _root_.Go.OpenSpec.ofChange s with cond := some uptoSmall }

/-- 'binnaclelaw18.CongLosses', WHERE WHAT IT READS IS OF BULK AT MOST 1048576: true; the input reads as it did. -/
def congLossesUptoRow : OpenClaim := { program := "ythfoipodgnfecaa", sum := "8790f5ba1872d4442000f71ddce521b1227e6238726ad0da1d7fce66fc41ca74", func := "binnacle/binnaclelaw18.CongLosses", spec := "congLosses", apart := false, narrowed := true }
def CongLossesUptoSaid : Prop := congLossesUptoRow.holds Try.pinned (OpenSpec.upto congLossesSpec)

/-- 'binnaclelaw18.CongGrows', WHERE WHAT IT READS IS OF BULK AT MOST 1048576: true; the input reads as it did. -/
def congGrowsUptoRow : OpenClaim := { program := "ythfoipodgnfecaa", sum := "8790f5ba1872d4442000f71ddce521b1227e6238726ad0da1d7fce66fc41ca74", func := "binnacle/binnaclelaw18.CongGrows", spec := "congGrows", apart := false, narrowed := true }
def CongGrowsUptoSaid : Prop := congGrowsUptoRow.holds Try.pinned (OpenSpec.upto congGrowsSpec)

/-- 'binnaclelaw18.CongRoom', WHERE WHAT IT READS IS OF BULK AT MOST 1048576: true; the input reads as it did. -/
def congRoomUptoRow : OpenClaim := { program := "ythfoipodgnfecaa", sum := "8790f5ba1872d4442000f71ddce521b1227e6238726ad0da1d7fce66fc41ca74", func := "binnacle/binnaclelaw18.CongRoom", spec := "congRoom", apart := false, narrowed := true }
def CongRoomUptoSaid : Prop := congRoomUptoRow.holds Try.pinned (OpenSpec.upto congRoomSpec)

end Rows
end Go.Proofs.Ythfoipodgnfecaa
