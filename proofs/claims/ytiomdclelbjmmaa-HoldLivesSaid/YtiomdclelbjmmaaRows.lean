/-
  No cell of these rows narrows 'for every input' (looked for: loops, veiled, ifaces, maps, wideKeys, modest, calm, conditions, laid).
  DERIVED. THE GIVEN ROWS OF THIS SEAT. 3 by the template 'for every input the law returns true; each argument reads behind the call as it read before'; 0 by the template 'total and deterministic' (their statements: YtiomdclelbjmmaaTotals.lean).
  GIVEN WITH THE SEED: the statements are not yours to turn. If you find one false, say at which input.
  Laid BY PROGRAM, IN A SANDBOX (cutbox-rows.mjs): the forced cells as the released guide's own fill.sh prints them over the translation 557fc5d8c0c79d27… (all of the seat's roots in one cut). By AI agents, Wed Nov 11 2026. No macro, syntax, notation, axiom, sorry.
-/
import Derived.Test.YtiomdclelbjmmaaChecked
import GoSem.Claim
import GoSem.ClaimJoined
import GoSem.ClaimMapViews
import Derived.JoinedTies
import Derived.KernelRfl
namespace Go.Proofs.Ytiomdclelbjmmaa
/- THE CELL 'sum', in the pinned program and in every row, IS THE sha256 OF THE DUMP (.gsa) THAT YtiomdclelbjmmaaProg.lean LOADS. Nothing in Lean hashes anything: it is a label: what it is worth is what the hold of that sum in a sandbox is worth. -/
noncomputable def Try.pinned : Pinned := { name := "ytiomdclelbjmmaa", sum := "557fc5d8c0c79d27f125f9852cbca933e9b8bf8af668a0bc9d6a7714d181c92b", checked := Try.checked }
namespace Rows
def none {H : Type} : Left H := { results := [], args := [] }

/-- 'packetboatlaw15.HoldDoes': WHATEVER THE INPUT: true; the input reads as it did. -/
def holdDoesSpec : ChangeSpec := { name := "holdDoes", fn := fun _ => fun
  | [d1, d2, d3] => { results := [.lit (.bool true)], args := [d1, d2, d3] }
  | _ => none }
def holdDoesRow : OpenClaim := { program := "ytiomdclelbjmmaa", sum := "557fc5d8c0c79d27f125f9852cbca933e9b8bf8af668a0bc9d6a7714d181c92b", func := "packetboat/packetboatlaw15.HoldDoes", spec := "holdDoes", unfollowed := true, recurses := true, apart := false }
def HoldDoesSaid : Prop := holdDoesRow.holds Try.pinned (OpenSpec.ofChange holdDoesSpec)

/-- ITS FALSE NEIGHBOUR: 'it returns false'. Refute it at one input. -/
def holdDoesWrong : ChangeSpec := { name := "holdDoes", fn := fun _ => fun
  | [d1, d2, d3] => { results := [.lit (.bool false)], args := [d1, d2, d3] }
  | _ => none }
def HoldDoesWrongFalsely : Prop := holdDoesRow.holds Try.pinned (OpenSpec.ofChange holdDoesWrong)

/-- 'packetboatlaw15.HoldCovered': WHATEVER THE INPUT: true; the input reads as it did. -/
def holdCoveredSpec : ChangeSpec := { name := "holdCovered", fn := fun _ => fun
  | [d1, d2] => { results := [.lit (.bool true)], args := [d1, d2] }
  | _ => none }
def holdCoveredRow : OpenClaim := { program := "ytiomdclelbjmmaa", sum := "557fc5d8c0c79d27f125f9852cbca933e9b8bf8af668a0bc9d6a7714d181c92b", func := "packetboat/packetboatlaw15.HoldCovered", spec := "holdCovered", unfollowed := true, recurses := true, apart := false }
def HoldCoveredSaid : Prop := holdCoveredRow.holds Try.pinned (OpenSpec.ofChange holdCoveredSpec)

/-- ITS FALSE NEIGHBOUR: 'it returns false'. Refute it at one input. -/
def holdCoveredWrong : ChangeSpec := { name := "holdCovered", fn := fun _ => fun
  | [d1, d2] => { results := [.lit (.bool false)], args := [d1, d2] }
  | _ => none }
def HoldCoveredWrongFalsely : Prop := holdCoveredRow.holds Try.pinned (OpenSpec.ofChange holdCoveredWrong)

/-- 'packetboatlaw15.HoldLives': WHATEVER THE INPUT: true; the input reads as it did. -/
def holdLivesSpec : ChangeSpec := { name := "holdLives", fn := fun _ => fun
  | [d1, d2] => { results := [.lit (.bool true)], args := [d1, d2] }
  | _ => none }
def holdLivesRow : OpenClaim := { program := "ytiomdclelbjmmaa", sum := "557fc5d8c0c79d27f125f9852cbca933e9b8bf8af668a0bc9d6a7714d181c92b", func := "packetboat/packetboatlaw15.HoldLives", spec := "holdLives", unfollowed := true, recurses := true, apart := false }
def HoldLivesSaid : Prop := holdLivesRow.holds Try.pinned (OpenSpec.ofChange holdLivesSpec)

/-- ITS FALSE NEIGHBOUR: 'it returns false'. Refute it at one input. -/
def holdLivesWrong : ChangeSpec := { name := "holdLives", fn := fun _ => fun
  | [d1, d2] => { results := [.lit (.bool false)], args := [d1, d2] }
  | _ => none }
def HoldLivesWrongFalsely : Prop := holdLivesRow.holds Try.pinned (OpenSpec.ofChange holdLivesWrong)

/- THE SECOND FORM. 'bulk': how many values and letters a reading holds, each counted each time it is reached (what is shared counts as often as it is met; a slice's spare places count too). A statement '..UptoSaid' is the law's where the arguments, and the package variables that the reading takes, are together of bulk at most 1048576: NARROWER than '..Said'. Prove '..Said' where nothing that the law and all that it calls make is longer than what came in: it says more and counts as full. Else prove '..UptoSaid'. A law counts once. -/
mutual
def uptoBulk {H : Type} : DataW H → Nat
  | .lit (.string bytes) => bytes.length + 1
  | .lit _ => 1
  | .nil => 1
  | .ptr d => uptoBulk d + 1
  | .slice elems spare => uptoBulkAll elems + uptoBulkAll spare + 1
  | .agg parts => uptoBulkAll parts + 1
  | .iface _ d => uptoBulk d + 1
  | .map entries => uptoBulkEntries entries + 1
  | .held _ => 1
def uptoBulkAll {H : Type} : List (DataW H) → Nat
  | [] => 0
  | d :: r => uptoBulk d + uptoBulkAll r
def uptoBulkEntries {H : Type} : List (Lit × DataW H) → Nat
  | [] => 0
  | x :: r => uptoBulkEntry x + uptoBulkEntries r
def uptoBulkEntry {H : Type} : Lit × DataW H → Nat
  | (.string bytes, d) => bytes.length + uptoBulk d + 1
  | (_, d) => uptoBulk d + 1
 end
def uptoSmall : (H : Type) → List (DataW H) → Bool := fun _ ds => decide (uptoBulkAll ds ≤ 1048576)
def OpenSpec.upto (s : _root_.Go.ChangeSpec) : _root_.Go.OpenSpec := { _root_.Go.OpenSpec.ofChange s with cond := some uptoSmall }

/-- 'packetboatlaw15.HoldDoes', WHERE WHAT IT READS IS OF BULK AT MOST 1048576: true; the input reads as it did. -/
def holdDoesUptoRow : OpenClaim := { program := "ytiomdclelbjmmaa", sum := "557fc5d8c0c79d27f125f9852cbca933e9b8bf8af668a0bc9d6a7714d181c92b", func := "packetboat/packetboatlaw15.HoldDoes", spec := "holdDoes", unfollowed := true, recurses := true, apart := false, narrowed := true }
def HoldDoesUptoSaid : Prop := holdDoesUptoRow.holds Try.pinned (OpenSpec.upto holdDoesSpec)

/-- 'packetboatlaw15.HoldCovered', WHERE WHAT IT READS IS OF BULK AT MOST 1048576: true; the input reads as it did. -/
def holdCoveredUptoRow : OpenClaim := { program := "ytiomdclelbjmmaa", sum := "557fc5d8c0c79d27f125f9852cbca933e9b8bf8af668a0bc9d6a7714d181c92b", func := "packetboat/packetboatlaw15.HoldCovered", spec := "holdCovered", unfollowed := true, recurses := true, apart := false, narrowed := true }
def HoldCoveredUptoSaid : Prop := holdCoveredUptoRow.holds Try.pinned (OpenSpec.upto holdCoveredSpec)

/-- 'packetboatlaw15.HoldLives', WHERE WHAT IT READS IS OF BULK AT MOST 1048576: true; the input reads as it did. -/
def holdLivesUptoRow : OpenClaim := { program := "ytiomdclelbjmmaa", sum := "557fc5d8c0c79d27f125f9852cbca933e9b8bf8af668a0bc9d6a7714d181c92b", func := "packetboat/packetboatlaw15.HoldLives", spec := "holdLives", unfollowed := true, recurses := true, apart := false, narrowed := true }
def HoldLivesUptoSaid : Prop := holdLivesUptoRow.holds Try.pinned (OpenSpec.upto holdLivesSpec)

end Rows
end Go.Proofs.Ytiomdclelbjmmaa
