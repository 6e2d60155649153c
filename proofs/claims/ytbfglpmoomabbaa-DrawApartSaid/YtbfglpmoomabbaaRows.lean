/-
  No cell of these rows narrows 'for every input' (looked for: loops, veiled, ifaces, maps, wideKeys, modest, calm, conditions, laid).
  DERIVED. THE GIVEN ROWS OF THIS SEAT. 8 by the template 'for every input the law returns true; each argument reads behind the call as it read before'; 0 by the template 'total and deterministic' (their statements: YtbfglpmoomabbaaTotals.lean).
  GIVEN WITH THE SEED: the statements are not yours to turn. If you find one false, say at which input.
  Laid BY PROGRAM, IN A SANDBOX (cutbox-rows.mjs): the forced cells as the released guide's own fill.sh prints them over the translation 0473e24da8afaf3e… (all of the seat's roots in one cut). By AI agents, Wed Nov 11 2026. No macro, syntax, notation, axiom, sorry.
-/
import Derived.Test.YtbfglpmoomabbaaChecked
import GoSem.Claim
import GoSem.ClaimJoined
import GoSem.ClaimMapViews
import Derived.JoinedTies
import Derived.KernelRfl
namespace Go.Proofs.Ytbfglpmoomabbaa
/- THE CELL 'sum', in the pinned program and in every row, IS THE sha256 OF THE DUMP (.gsa) THAT YtbfglpmoomabbaaProg.lean LOADS. Nothing in Lean hashes anything: it is a label: what it is worth is what the hold of that sum in a sandbox is worth. -/
noncomputable def Try.pinned : Pinned := { name := "ytbfglpmoomabbaa", sum := "0473e24da8afaf3e185544e92e49b978fb67699cfb5c3df17901443f7c18b51d", checked := Try.checked }
namespace Rows
def none {H : Type} : Left H := { results := [], args := [] }

/-- 'warplaw7.HashAll': WHATEVER THE INPUT: true; the input reads as it did. -/
def hashAllSpec : ChangeSpec := { name := "hashAll", fn := fun _ => fun
  | [d1, d2, d3] => { results := [.lit (.bool true)], args := [d1, d2, d3] }
  | _ => none }
def hashAllRow : OpenClaim := { program := "ytbfglpmoomabbaa", sum := "0473e24da8afaf3e185544e92e49b978fb67699cfb5c3df17901443f7c18b51d", func := "warp/warplaw7.HashAll", spec := "hashAll", apart := false }
def HashAllSaid : Prop := hashAllRow.holds Try.pinned (OpenSpec.ofChange hashAllSpec)

/-- ITS FALSE NEIGHBOUR: 'it returns false'. Refute it at one input. -/
def hashAllWrong : ChangeSpec := { name := "hashAll", fn := fun _ => fun
  | [d1, d2, d3] => { results := [.lit (.bool false)], args := [d1, d2, d3] }
  | _ => none }
def HashAllWrongFalsely : Prop := hashAllRow.holds Try.pinned (OpenSpec.ofChange hashAllWrong)

/-- 'warplaw7.HashTurned': WHATEVER THE INPUT: true; the input reads as it did. -/
def hashTurnedSpec : ChangeSpec := { name := "hashTurned", fn := fun _ => fun
  | [d1, d2, d3] => { results := [.lit (.bool true)], args := [d1, d2, d3] }
  | _ => none }
def hashTurnedRow : OpenClaim := { program := "ytbfglpmoomabbaa", sum := "0473e24da8afaf3e185544e92e49b978fb67699cfb5c3df17901443f7c18b51d", func := "warp/warplaw7.HashTurned", spec := "hashTurned", apart := false }
def HashTurnedSaid : Prop := hashTurnedRow.holds Try.pinned (OpenSpec.ofChange hashTurnedSpec)

/-- ITS FALSE NEIGHBOUR: 'it returns false'. Refute it at one input. -/
def hashTurnedWrong : ChangeSpec := { name := "hashTurned", fn := fun _ => fun
  | [d1, d2, d3] => { results := [.lit (.bool false)], args := [d1, d2, d3] }
  | _ => none }
def HashTurnedWrongFalsely : Prop := hashTurnedRow.holds Try.pinned (OpenSpec.ofChange hashTurnedWrong)

/-- 'warplaw7.HashStripes': WHATEVER THE INPUT: true; the input reads as it did. -/
def hashStripesSpec : ChangeSpec := { name := "hashStripes", fn := fun _ => fun
  | [d1, d2] => { results := [.lit (.bool true)], args := [d1, d2] }
  | _ => none }
def hashStripesRow : OpenClaim := { program := "ytbfglpmoomabbaa", sum := "0473e24da8afaf3e185544e92e49b978fb67699cfb5c3df17901443f7c18b51d", func := "warp/warplaw7.HashStripes", spec := "hashStripes", apart := false }
def HashStripesSaid : Prop := hashStripesRow.holds Try.pinned (OpenSpec.ofChange hashStripesSpec)

/-- ITS FALSE NEIGHBOUR: 'it returns false'. Refute it at one input. -/
def hashStripesWrong : ChangeSpec := { name := "hashStripes", fn := fun _ => fun
  | [d1, d2] => { results := [.lit (.bool false)], args := [d1, d2] }
  | _ => none }
def HashStripesWrongFalsely : Prop := hashStripesRow.holds Try.pinned (OpenSpec.ofChange hashStripesWrong)

/-- 'warplaw7.HashKnown': WHATEVER THE INPUT: true; the input reads as it did. -/
def hashKnownSpec : ChangeSpec := { name := "hashKnown", fn := fun _ => fun
  | [d1, d2, d3] => { results := [.lit (.bool true)], args := [d1, d2, d3] }
  | _ => none }
def hashKnownRow : OpenClaim := { program := "ytbfglpmoomabbaa", sum := "0473e24da8afaf3e185544e92e49b978fb67699cfb5c3df17901443f7c18b51d", func := "warp/warplaw7.HashKnown", spec := "hashKnown", apart := false }
def HashKnownSaid : Prop := hashKnownRow.holds Try.pinned (OpenSpec.ofChange hashKnownSpec)

/-- ITS FALSE NEIGHBOUR: 'it returns false'. Refute it at one input. -/
def hashKnownWrong : ChangeSpec := { name := "hashKnown", fn := fun _ => fun
  | [d1, d2, d3] => { results := [.lit (.bool false)], args := [d1, d2, d3] }
  | _ => none }
def HashKnownWrongFalsely : Prop := hashKnownRow.holds Try.pinned (OpenSpec.ofChange hashKnownWrong)

/-- 'warplaw1.DrawLists': WHATEVER THE INPUT: true; the input reads as it did. -/
def drawListsSpec : ChangeSpec := { name := "drawLists", fn := fun _ => fun
  | [d1, d2] => { results := [.lit (.bool true)], args := [d1, d2] }
  | _ => none }
def drawListsRow : OpenClaim := { program := "ytbfglpmoomabbaa", sum := "0473e24da8afaf3e185544e92e49b978fb67699cfb5c3df17901443f7c18b51d", func := "warp/warplaw1.DrawLists", spec := "drawLists", apart := false }
def DrawListsSaid : Prop := drawListsRow.holds Try.pinned (OpenSpec.ofChange drawListsSpec)

/-- ITS FALSE NEIGHBOUR: 'it returns false'. Refute it at one input. -/
def drawListsWrong : ChangeSpec := { name := "drawLists", fn := fun _ => fun
  | [d1, d2] => { results := [.lit (.bool false)], args := [d1, d2] }
  | _ => none }
def DrawListsWrongFalsely : Prop := drawListsRow.holds Try.pinned (OpenSpec.ofChange drawListsWrong)

/-- 'warplaw1.DrawAll': WHATEVER THE INPUT: true; the input reads as it did. -/
def drawAllSpec : ChangeSpec := { name := "drawAll", fn := fun _ => fun
  | [d1, d2, d3] => { results := [.lit (.bool true)], args := [d1, d2, d3] }
  | _ => none }
def drawAllRow : OpenClaim := { program := "ytbfglpmoomabbaa", sum := "0473e24da8afaf3e185544e92e49b978fb67699cfb5c3df17901443f7c18b51d", func := "warp/warplaw1.DrawAll", spec := "drawAll", apart := false }
def DrawAllSaid : Prop := drawAllRow.holds Try.pinned (OpenSpec.ofChange drawAllSpec)

/-- ITS FALSE NEIGHBOUR: 'it returns false'. Refute it at one input. -/
def drawAllWrong : ChangeSpec := { name := "drawAll", fn := fun _ => fun
  | [d1, d2, d3] => { results := [.lit (.bool false)], args := [d1, d2, d3] }
  | _ => none }
def DrawAllWrongFalsely : Prop := drawAllRow.holds Try.pinned (OpenSpec.ofChange drawAllWrong)

/-- 'warplaw1.DrawParts': WHATEVER THE INPUT: true; the input reads as it did. -/
def drawPartsSpec : ChangeSpec := { name := "drawParts", fn := fun _ => fun
  | [d1, d2, d3] => { results := [.lit (.bool true)], args := [d1, d2, d3] }
  | _ => none }
def drawPartsRow : OpenClaim := { program := "ytbfglpmoomabbaa", sum := "0473e24da8afaf3e185544e92e49b978fb67699cfb5c3df17901443f7c18b51d", func := "warp/warplaw1.DrawParts", spec := "drawParts", apart := false }
def DrawPartsSaid : Prop := drawPartsRow.holds Try.pinned (OpenSpec.ofChange drawPartsSpec)

/-- ITS FALSE NEIGHBOUR: 'it returns false'. Refute it at one input. -/
def drawPartsWrong : ChangeSpec := { name := "drawParts", fn := fun _ => fun
  | [d1, d2, d3] => { results := [.lit (.bool false)], args := [d1, d2, d3] }
  | _ => none }
def DrawPartsWrongFalsely : Prop := drawPartsRow.holds Try.pinned (OpenSpec.ofChange drawPartsWrong)

/-- 'warplaw1.DrawApart': WHATEVER THE INPUT: true; the input reads as it did. -/
def drawApartSpec : ChangeSpec := { name := "drawApart", fn := fun _ => fun
  | [d1, d2, d3] => { results := [.lit (.bool true)], args := [d1, d2, d3] }
  | _ => none }
def drawApartRow : OpenClaim := { program := "ytbfglpmoomabbaa", sum := "0473e24da8afaf3e185544e92e49b978fb67699cfb5c3df17901443f7c18b51d", func := "warp/warplaw1.DrawApart", spec := "drawApart", apart := false }
def DrawApartSaid : Prop := drawApartRow.holds Try.pinned (OpenSpec.ofChange drawApartSpec)

/-- ITS FALSE NEIGHBOUR: 'it returns false'. Refute it at one input. -/
def drawApartWrong : ChangeSpec := { name := "drawApart", fn := fun _ => fun
  | [d1, d2, d3] => { results := [.lit (.bool false)], args := [d1, d2, d3] }
  | _ => none }
def DrawApartWrongFalsely : Prop := drawApartRow.holds Try.pinned (OpenSpec.ofChange drawApartWrong)

/- THE SECOND FORM. 'bulk': how many values and letters a reading holds, each counted each time it is reached (what is shared counts as often as it is met; a slice's spare places count too). A statement '..UptoSaid' is the law's where the arguments, and the package variables that the reading takes, are together of bulk at most 1048576: NARROWER than '..Said'. Prove '..Said' where nothing that the law and all that it calls make is longer than what came in: it says more and counts as full. Else prove '..UptoSaid'. A law counts once. -/
mutual
def uptoBulk {H : Type} : DataW H → Nat
  | .lit (.string bytes) => bytes.length + 1
  | .lit _ => 1
  | .nil => 1
  | .ptr d => uptoBulk d + 1
  | .slice elems spare => uptoBulkAll elems + uptoBulkAll spare + 1
  | .agg parts => uptoBulkAll parts + 1
  | .iface _ d => uptoBulk d + 1
  | .map entries => uptoBulkEntries entries + 1
  | .held _ => 1
def uptoBulkAll {H : Type} : List (DataW H) → Nat
  | [] => 0
  | d :: r => uptoBulk d + uptoBulkAll r
def uptoBulkEntries {H : Type} : List (Lit × DataW H) → Nat
  | [] => 0
  | x :: r => uptoBulkEntry x + uptoBulkEntries r
def uptoBulkEntry {H : Type} : Lit × DataW H → Nat
  | (.string bytes, d) => bytes.length + uptoBulk d + 1
  | (_, d) => uptoBulk d + 1
 end
def uptoSmall : (H : Type) → List (DataW H) → Bool := fun _ ds => decide (uptoBulkAll ds ≤ 1048576)
def OpenSpec.upto (s : _root_.Go.ChangeSpec) : _root_.Go.OpenSpec := { _root_.Go.OpenSpec.ofChange s with cond := some uptoSmall }

/-- 'warplaw7.HashAll', WHERE WHAT IT READS IS OF BULK AT MOST 1048576: true; the input reads as it did. -/
def hashAllUptoRow : OpenClaim := { program := "ytbfglpmoomabbaa", sum := "0473e24da8afaf3e185544e92e49b978fb67699cfb5c3df17901443f7c18b51d", func := "warp/warplaw7.HashAll", spec := "hashAll", apart := false, narrowed := true }
def HashAllUptoSaid : Prop := hashAllUptoRow.holds Try.pinned (OpenSpec.upto hashAllSpec)

/-- 'warplaw7.HashTurned', WHERE WHAT IT READS IS OF BULK AT MOST 1048576: true; the input reads as it did. -/
def hashTurnedUptoRow : OpenClaim := { program := "ytbfglpmoomabbaa", sum := "0473e24da8afaf3e185544e92e49b978fb67699cfb5c3df17901443f7c18b51d", func := "warp/warplaw7.HashTurned", spec := "hashTurned", apart := false, narrowed := true }
def HashTurnedUptoSaid : Prop := hashTurnedUptoRow.holds Try.pinned (OpenSpec.upto hashTurnedSpec)

/-- 'warplaw7.HashStripes', WHERE WHAT IT READS IS OF BULK AT MOST 1048576: true; the input reads as it did. -/
def hashStripesUptoRow : OpenClaim := { program := "ytbfglpmoomabbaa", sum := "0473e24da8afaf3e185544e92e49b978fb67699cfb5c3df17901443f7c18b51d", func := "warp/warplaw7.HashStripes", spec := "hashStripes", apart := false, narrowed := true }
def HashStripesUptoSaid : Prop := hashStripesUptoRow.holds Try.pinned (OpenSpec.upto hashStripesSpec)

/-- 'warplaw7.HashKnown', WHERE WHAT IT READS IS OF BULK AT MOST 1048576: true; the input reads as it did. -/
def hashKnownUptoRow : OpenClaim := { program := "ytbfglpmoomabbaa", sum := "0473e24da8afaf3e185544e92e49b978fb67699cfb5c3df17901443f7c18b51d", func := "warp/warplaw7.HashKnown", spec := "hashKnown", apart := false, narrowed := true }
def HashKnownUptoSaid : Prop := hashKnownUptoRow.holds Try.pinned (OpenSpec.upto hashKnownSpec)

/-- 'warplaw1.DrawLists', WHERE WHAT IT READS IS OF BULK AT MOST 1048576: true; the input reads as it did. -/
def drawListsUptoRow : OpenClaim := { program := "ytbfglpmoomabbaa", sum := "0473e24da8afaf3e185544e92e49b978fb67699cfb5c3df17901443f7c18b51d", func := "warp/warplaw1.DrawLists", spec := "drawLists", apart := false, narrowed := true }
def DrawListsUptoSaid : Prop := drawListsUptoRow.holds Try.pinned (OpenSpec.upto drawListsSpec)

/-- 'warplaw1.DrawAll', WHERE WHAT IT READS IS OF BULK AT MOST 1048576: true; the input reads as it did. -/
def drawAllUptoRow : OpenClaim := { program := "ytbfglpmoomabbaa", sum := "0473e24da8afaf3e185544e92e49b978fb67699cfb5c3df17901443f7c18b51d", func := "warp/warplaw1.DrawAll", spec := "drawAll", apart := false, narrowed := true }
def DrawAllUptoSaid : Prop := drawAllUptoRow.holds Try.pinned (OpenSpec.upto drawAllSpec)

/-- 'warplaw1.DrawParts', WHERE WHAT IT READS IS OF BULK AT MOST 1048576: true; the input reads as it did. -/
def drawPartsUptoRow : OpenClaim := { program := "ytbfglpmoomabbaa", sum := "0473e24da8afaf3e185544e92e49b978fb67699cfb5c3df17901443f7c18b51d", func := "warp/warplaw1.DrawParts", spec := "drawParts", apart := false, narrowed := true }
def DrawPartsUptoSaid : Prop := drawPartsUptoRow.holds Try.pinned (OpenSpec.upto drawPartsSpec)

/-- 'warplaw1.DrawApart', WHERE WHAT IT READS IS OF BULK AT MOST 1048576: true; the input reads as it did. -/
def drawApartUptoRow : OpenClaim := { program := "ytbfglpmoomabbaa", sum := "0473e24da8afaf3e185544e92e49b978fb67699cfb5c3df17901443f7c18b51d", func := "warp/warplaw1.DrawApart", spec := "drawApart", apart := false, narrowed := true }
def DrawApartUptoSaid : Prop := drawApartUptoRow.holds Try.pinned (OpenSpec.upto drawApartSpec)

end Rows
end Go.Proofs.Ytbfglpmoomabbaa
