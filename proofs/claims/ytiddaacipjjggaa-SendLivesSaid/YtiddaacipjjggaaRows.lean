/-
  No cell of these rows narrows 'for every input' (looked for: loops, veiled, ifaces, maps, wideKeys, modest, calm, conditions, laid).
  DERIVED. THE GIVEN ROWS OF THIS SEAT. 3 by the template 'for every input the law returns true; each argument reads behind the call as it read before'; 0 by the template 'total and deterministic' (their statements: YtiddaacipjjggaaTotals.lean).
  GIVEN WITH THE SEED: the statements are not yours to turn. If you find one false, say at which input.
  Laid BY PROGRAM, IN A SANDBOX (cutbox-rows.mjs): the forced cells as the released guide's own fill.sh prints them over the translation 115e66105a0454e0… (all of the seat's roots in one cut). By AI agents, Wed Nov 11 2026. No macro, syntax, notation, axiom, sorry.
-/
import Derived.Test.YtiddaacipjjggaaChecked
import GoSem.Claim
import GoSem.ClaimJoined
import GoSem.ClaimMapViews
import Derived.JoinedTies
import Derived.KernelRfl
namespace Go.Proofs.Ytiddaacipjjggaa
/- THE CELL 'sum', in the pinned program and in every row, IS THE sha256 OF THE DUMP (.gsa) THAT YtiddaacipjjggaaProg.lean LOADS. Nothing in Lean hashes anything: it is a label: what it is worth is what the hold of that sum in a sandbox is worth. -/
noncomputable def Try.pinned : Pinned := { name := "ytiddaacipjjggaa", sum := "115e66105a0454e0e8c9734788842b80b94c70f9741adcf40d0ced6eb9ddc50a", checked := Try.checked }
namespace Rows
def none {H : Type} : Left H := { results := [], args := [] }

/-- 'packetboatlaw18.SendDoes': WHATEVER THE INPUT: true; the input reads as it did. -/
def sendDoesSpec : ChangeSpec := { name := "sendDoes", fn := fun _ => fun
  | [d1, d2] => { results := [.lit (.bool true)], args := [d1, d2] }
  | _ => none }
def sendDoesRow : OpenClaim := { program := "ytiddaacipjjggaa", sum := "115e66105a0454e0e8c9734788842b80b94c70f9741adcf40d0ced6eb9ddc50a", func := "packetboat/packetboatlaw18.SendDoes", spec := "sendDoes", unfollowed := true, recurses := true, apart := false }
def SendDoesSaid : Prop := sendDoesRow.holds Try.pinned (OpenSpec.ofChange sendDoesSpec)

/-- ITS FALSE NEIGHBOUR: 'it returns false'. Refute it at one input. -/
def sendDoesWrong : ChangeSpec := { name := "sendDoes", fn := fun _ => fun
  | [d1, d2] => { results := [.lit (.bool false)], args := [d1, d2] }
  | _ => none }
def SendDoesWrongFalsely : Prop := sendDoesRow.holds Try.pinned (OpenSpec.ofChange sendDoesWrong)

/-- 'packetboatlaw18.SendSynced': WHATEVER THE INPUT: true; the input reads as it did. -/
def sendSyncedSpec : ChangeSpec := { name := "sendSynced", fn := fun _ => fun
  | [d] => { results := [.lit (.bool true)], args := [d] }
  | _ => none }
def sendSyncedRow : OpenClaim := { program := "ytiddaacipjjggaa", sum := "115e66105a0454e0e8c9734788842b80b94c70f9741adcf40d0ced6eb9ddc50a", func := "packetboat/packetboatlaw18.SendSynced", spec := "sendSynced", unfollowed := true, recurses := true, apart := false }
def SendSyncedSaid : Prop := sendSyncedRow.holds Try.pinned (OpenSpec.ofChange sendSyncedSpec)

/-- ITS FALSE NEIGHBOUR: 'it returns false'. Refute it at one input. -/
def sendSyncedWrong : ChangeSpec := { name := "sendSynced", fn := fun _ => fun
  | [d] => { results := [.lit (.bool false)], args := [d] }
  | _ => none }
def SendSyncedWrongFalsely : Prop := sendSyncedRow.holds Try.pinned (OpenSpec.ofChange sendSyncedWrong)

/-- 'packetboatlaw18.SendLives': WHATEVER THE INPUT: true; the input reads as it did. -/
def sendLivesSpec : ChangeSpec := { name := "sendLives", fn := fun _ => fun
  | [d1, d2] => { results := [.lit (.bool true)], args := [d1, d2] }
  | _ => none }
def sendLivesRow : OpenClaim := { program := "ytiddaacipjjggaa", sum := "115e66105a0454e0e8c9734788842b80b94c70f9741adcf40d0ced6eb9ddc50a", func := "packetboat/packetboatlaw18.SendLives", spec := "sendLives", unfollowed := true, recurses := true, apart := false }
def SendLivesSaid : Prop := sendLivesRow.holds Try.pinned (OpenSpec.ofChange sendLivesSpec)

/-- ITS FALSE NEIGHBOUR: 'it returns false'. Refute it at one input. -/
def sendLivesWrong : ChangeSpec := { name := "sendLives", fn := fun _ => fun
  | [d1, d2] => { results := [.lit (.bool false)], args := [d1, d2] }
  | _ => none }
def SendLivesWrongFalsely : Prop := sendLivesRow.holds Try.pinned (OpenSpec.ofChange sendLivesWrong)

/- THE SECOND FORM. 'bulk': how many values and letters a reading holds, each counted each time it is reached (what is shared counts as often as it is met; a slice's spare places count too). A statement '..UptoSaid' is the law's where the arguments, and the package variables that the reading takes, are together of bulk at most 1048576: NARROWER than '..Said'. Prove '..Said' where nothing that the law and all that it calls make is longer than what came in: it says more and counts as full. Else prove '..UptoSaid'. A law counts once. -/
mutual
def uptoBulk {H : Type} : DataW H → Nat
  | .lit (.string bytes) => bytes.length + 1
  | .lit _ => 1
  | .nil => 1
  | .ptr d => uptoBulk d + 1
  | .slice elems spare => uptoBulkAll elems + uptoBulkAll spare + 1
  | .agg parts => uptoBulkAll parts + 1
  | .iface _ d => uptoBulk d + 1
  | .map entries => uptoBulkEntries entries + 1
  | .held _ => 1
def uptoBulkAll {H : Type} : List (DataW H) → Nat
  | [] => 0
  | d :: r => uptoBulk d + uptoBulkAll r
def uptoBulkEntries {H : Type} : List (Lit × DataW H) → Nat
  | [] => 0
  | x :: r => uptoBulkEntry x + uptoBulkEntries r
def uptoBulkEntry {H : Type} : Lit × DataW H → Nat
  | (.string bytes, d) => bytes.length + uptoBulk d + 1
  | (_, d) => uptoBulk d + 1
 end
def uptoSmall : (H : Type) → List (DataW H) → Bool := fun _ ds => decide (uptoBulkAll ds ≤ 1048576)
def OpenSpec.upto (s : _root_.Go.ChangeSpec) : _root_.Go.OpenSpec := { _root_.Go.OpenSpec.ofChange s with cond := some uptoSmall }

/-- 'packetboatlaw18.SendDoes', WHERE WHAT IT READS IS OF BULK AT MOST 1048576: true; the input reads as it did. -/
def sendDoesUptoRow : OpenClaim := { program := "ytiddaacipjjggaa", sum := "115e66105a0454e0e8c9734788842b80b94c70f9741adcf40d0ced6eb9ddc50a", func := "packetboat/packetboatlaw18.SendDoes", spec := "sendDoes", unfollowed := true, recurses := true, apart := false, narrowed := true }
def SendDoesUptoSaid : Prop := sendDoesUptoRow.holds Try.pinned (OpenSpec.upto sendDoesSpec)

/-- 'packetboatlaw18.SendSynced', WHERE WHAT IT READS IS OF BULK AT MOST 1048576: true; the input reads as it did. -/
def sendSyncedUptoRow : OpenClaim := { program := "ytiddaacipjjggaa", sum := "115e66105a0454e0e8c9734788842b80b94c70f9741adcf40d0ced6eb9ddc50a", func := "packetboat/packetboatlaw18.SendSynced", spec := "sendSynced", unfollowed := true, recurses := true, apart := false, narrowed := true }
def SendSyncedUptoSaid : Prop := sendSyncedUptoRow.holds Try.pinned (OpenSpec.upto sendSyncedSpec)

/-- 'packetboatlaw18.SendLives', WHERE WHAT IT READS IS OF BULK AT MOST 1048576: true; the input reads as it did. -/
def sendLivesUptoRow : OpenClaim := { program := "ytiddaacipjjggaa", sum := "115e66105a0454e0e8c9734788842b80b94c70f9741adcf40d0ced6eb9ddc50a", func := "packetboat/packetboatlaw18.SendLives", spec := "sendLives", unfollowed := true, recurses := true, apart := false, narrowed := true }
def SendLivesUptoSaid : Prop := sendLivesUptoRow.holds Try.pinned (OpenSpec.upto sendLivesSpec)

end Rows
end Go.Proofs.Ytiddaacipjjggaa
