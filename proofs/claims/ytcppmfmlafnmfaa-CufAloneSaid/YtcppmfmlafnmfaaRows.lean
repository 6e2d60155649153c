/-
  No cell of these rows narrows 'for every input' (looked for: loops, veiled, ifaces, maps, wideKeys, modest, calm, conditions, laid).
  DERIVED. THE GIVEN ROWS OF THIS SEAT. 5 by the template 'for every input the law returns true; each argument reads behind the call as it read before'; 0 by the template 'total and deterministic' (their statements: YtcppmfmlafnmfaaTotals.lean).
  GIVEN WITH THE SEED: the statements are not yours to turn. If you find one false, say at which input.
  Laid BY PROGRAM, IN A SANDBOX (cutbox-rows.mjs): the forced cells as the released guide's own fill.sh prints them over the translation b44e218cc781e7a7… (all of the seat's roots in one cut). By AI agents, Wed Nov 11 2026. No macro, syntax, notation, axiom, sorry.
-/
import Derived.Test.YtcppmfmlafnmfaaChecked
import GoSem.Claim
import GoSem.ClaimJoined
import GoSem.ClaimMapViews
import Derived.JoinedTies
import Derived.KernelRfl
namespace Go.Proofs.Ytcppmfmlafnmfaa
/- THE CELL 'sum', in the pinned program and in every row, IS THE sha256 OF THE DUMP (.gsa) THAT YtcppmfmlafnmfaaProg.lean LOADS. Nothing in Lean hashes anything: it is a label: what it is worth is what the hold of that sum in a sandbox is worth. -/
noncomputable def Try.pinned : Pinned := { name := "ytcppmfmlafnmfaa", sum := "b44e218cc781e7a7858bca228195a7d0dfe1a8313cfc6a5fcd9124272805ec49", checked := Try.checked }
namespace Rows
def none {H : Type} : Left H := { results := [], args := [] }

/-- 'warplaw4.CufAlone': WHATEVER THE INPUT: true; the input reads as it did. -/
def cufAloneSpec : ChangeSpec := { name := "cufAlone", fn := fun _ => fun
  | [d1, d2, d3, d4, d5] => { results := [.lit (.bool true)], args := [d1, d2, d3, d4, d5] }
  | _ => none }
def cufAloneRow : OpenClaim := { program := "ytcppmfmlafnmfaa", sum := "b44e218cc781e7a7858bca228195a7d0dfe1a8313cfc6a5fcd9124272805ec49", func := "warp/warplaw4.CufAlone", spec := "cufAlone", unfollowed := true, recurses := true, apart := false }
def CufAloneSaid : Prop := cufAloneRow.holds Try.pinned (OpenSpec.ofChange cufAloneSpec)

/-- ITS FALSE NEIGHBOUR: 'it returns false'. Refute it at one input. -/
def cufAloneWrong : ChangeSpec := { name := "cufAlone", fn := fun _ => fun
  | [d1, d2, d3, d4, d5] => { results := [.lit (.bool false)], args := [d1, d2, d3, d4, d5] }
  | _ => none }
def CufAloneWrongFalsely : Prop := cufAloneRow.holds Try.pinned (OpenSpec.ofChange cufAloneWrong)

/-- 'warplaw4.CufRoots': WHATEVER THE INPUT: true; the input reads as it did. -/
def cufRootsSpec : ChangeSpec := { name := "cufRoots", fn := fun _ => fun
  | [d1, d2, d3, d4] => { results := [.lit (.bool true)], args := [d1, d2, d3, d4] }
  | _ => none }
def cufRootsRow : OpenClaim := { program := "ytcppmfmlafnmfaa", sum := "b44e218cc781e7a7858bca228195a7d0dfe1a8313cfc6a5fcd9124272805ec49", func := "warp/warplaw4.CufRoots", spec := "cufRoots", unfollowed := true, recurses := true, apart := false }
def CufRootsSaid : Prop := cufRootsRow.holds Try.pinned (OpenSpec.ofChange cufRootsSpec)

/-- ITS FALSE NEIGHBOUR: 'it returns false'. Refute it at one input. -/
def cufRootsWrong : ChangeSpec := { name := "cufRoots", fn := fun _ => fun
  | [d1, d2, d3, d4] => { results := [.lit (.bool false)], args := [d1, d2, d3, d4] }
  | _ => none }
def CufRootsWrongFalsely : Prop := cufRootsRow.holds Try.pinned (OpenSpec.ofChange cufRootsWrong)

/-- 'warplaw4.CufSteps': WHATEVER THE INPUT: true; the input reads as it did. -/
def cufStepsSpec : ChangeSpec := { name := "cufSteps", fn := fun _ => fun
  | [d1, d2, d3, d4, d5, d6] => { results := [.lit (.bool true)], args := [d1, d2, d3, d4, d5, d6] }
  | _ => none }
def cufStepsRow : OpenClaim := { program := "ytcppmfmlafnmfaa", sum := "b44e218cc781e7a7858bca228195a7d0dfe1a8313cfc6a5fcd9124272805ec49", func := "warp/warplaw4.CufSteps", spec := "cufSteps", unfollowed := true, recurses := true, apart := false }
def CufStepsSaid : Prop := cufStepsRow.holds Try.pinned (OpenSpec.ofChange cufStepsSpec)

/-- ITS FALSE NEIGHBOUR: 'it returns false'. Refute it at one input. -/
def cufStepsWrong : ChangeSpec := { name := "cufSteps", fn := fun _ => fun
  | [d1, d2, d3, d4, d5, d6] => { results := [.lit (.bool false)], args := [d1, d2, d3, d4, d5, d6] }
  | _ => none }
def CufStepsWrongFalsely : Prop := cufStepsRow.holds Try.pinned (OpenSpec.ofChange cufStepsWrong)

/-- 'warplaw4.CufAll': WHATEVER THE INPUT: true; the input reads as it did. -/
def cufAllSpec : ChangeSpec := { name := "cufAll", fn := fun _ => fun
  | [d1, d2, d3, d4, d5] => { results := [.lit (.bool true)], args := [d1, d2, d3, d4, d5] }
  | _ => none }
def cufAllRow : OpenClaim := { program := "ytcppmfmlafnmfaa", sum := "b44e218cc781e7a7858bca228195a7d0dfe1a8313cfc6a5fcd9124272805ec49", func := "warp/warplaw4.CufAll", spec := "cufAll", unfollowed := true, recurses := true, apart := false }
def CufAllSaid : Prop := cufAllRow.holds Try.pinned (OpenSpec.ofChange cufAllSpec)

/-- ITS FALSE NEIGHBOUR: 'it returns false'. Refute it at one input. -/
def cufAllWrong : ChangeSpec := { name := "cufAll", fn := fun _ => fun
  | [d1, d2, d3, d4, d5] => { results := [.lit (.bool false)], args := [d1, d2, d3, d4, d5] }
  | _ => none }
def CufAllWrongFalsely : Prop := cufAllRow.holds Try.pinned (OpenSpec.ofChange cufAllWrong)

/-- 'warplaw4.CufChains': WHATEVER THE INPUT: true; the input reads as it did. -/
def cufChainsSpec : ChangeSpec := { name := "cufChains", fn := fun _ => fun
  | [d1, d2] => { results := [.lit (.bool true)], args := [d1, d2] }
  | _ => none }
def cufChainsRow : OpenClaim := { program := "ytcppmfmlafnmfaa", sum := "b44e218cc781e7a7858bca228195a7d0dfe1a8313cfc6a5fcd9124272805ec49", func := "warp/warplaw4.CufChains", spec := "cufChains", unfollowed := true, recurses := true, apart := false }
def CufChainsSaid : Prop := cufChainsRow.holds Try.pinned (OpenSpec.ofChange cufChainsSpec)

/-- ITS FALSE NEIGHBOUR: 'it returns false'. Refute it at one input. -/
def cufChainsWrong : ChangeSpec := { name := "cufChains", fn := fun _ => fun
  | [d1, d2] => { results := [.lit (.bool false)], args := [d1, d2] }
  | _ => none }
def CufChainsWrongFalsely : Prop := cufChainsRow.holds Try.pinned (OpenSpec.ofChange cufChainsWrong)

/- THE SECOND FORM. 'bulk': how many values and letters a reading holds, each counted each time it is reached (what is shared counts as often as it is met; a slice's spare places count too). A statement '..UptoSaid' is the law's where the arguments, and the package variables that the reading takes, are together of bulk at most 1048576: NARROWER than '..Said'. Prove '..Said' where nothing that the law and all that it calls make is longer than what came in: it says more and counts as full. Else prove '..UptoSaid'. A law counts once. -/
mutual
def uptoBulk {H : Type} : DataW H → Nat
  | .lit (.string bytes) => bytes.length + 1
  | .lit _ => 1
  | .nil => 1
  | .ptr d => uptoBulk d + 1
  | .slice elems spare => uptoBulkAll elems + uptoBulkAll spare + 1
  | .agg parts => uptoBulkAll parts + 1
  | .iface _ d => uptoBulk d + 1
  | .map entries => uptoBulkEntries entries + 1
  | .held _ => 1
def uptoBulkAll {H : Type} : List (DataW H) → Nat
  | [] => 0
  | d :: r => uptoBulk d + uptoBulkAll r
def uptoBulkEntries {H : Type} : List (Lit × DataW H) → Nat
  | [] => 0
  | x :: r => uptoBulkEntry x + uptoBulkEntries r
def uptoBulkEntry {H : Type} : Lit × DataW H → Nat
  | (.string bytes, d) => bytes.length + uptoBulk d + 1
  | (_, d) => uptoBulk d + 1
 end
def uptoSmall : (H : Type) → List (DataW H) → Bool := fun _ ds => decide (uptoBulkAll ds ≤ 1048576)
def OpenSpec.upto (s : _root_.Go.ChangeSpec) : _root_.Go.OpenSpec := { _root_.Go.OpenSpec.ofChange s with cond := some uptoSmall }

/-- 'warplaw4.CufAlone', WHERE WHAT IT READS IS OF BULK AT MOST 1048576: true; the input reads as it did. -/
def cufAloneUptoRow : OpenClaim := { program := "ytcppmfmlafnmfaa", sum := "b44e218cc781e7a7858bca228195a7d0dfe1a8313cfc6a5fcd9124272805ec49", func := "warp/warplaw4.CufAlone", spec := "cufAlone", unfollowed := true, recurses := true, apart := false, narrowed := true }
def CufAloneUptoSaid : Prop := cufAloneUptoRow.holds Try.pinned (OpenSpec.upto cufAloneSpec)

/-- 'warplaw4.CufRoots', WHERE WHAT IT READS IS OF BULK AT MOST 1048576: true; the input reads as it did. -/
def cufRootsUptoRow : OpenClaim := { program := "ytcppmfmlafnmfaa", sum := "b44e218cc781e7a7858bca228195a7d0dfe1a8313cfc6a5fcd9124272805ec49", func := "warp/warplaw4.CufRoots", spec := "cufRoots", unfollowed := true, recurses := true, apart := false, narrowed := true }
def CufRootsUptoSaid : Prop := cufRootsUptoRow.holds Try.pinned (OpenSpec.upto cufRootsSpec)

/-- 'warplaw4.CufSteps', WHERE WHAT IT READS IS OF BULK AT MOST 1048576: true; the input reads as it did. -/
def cufStepsUptoRow : OpenClaim := { program := "ytcppmfmlafnmfaa", sum := "b44e218cc781e7a7858bca228195a7d0dfe1a8313cfc6a5fcd9124272805ec49", func := "warp/warplaw4.CufSteps", spec := "cufSteps", unfollowed := true, recurses := true, apart := false, narrowed := true }
def CufStepsUptoSaid : Prop := cufStepsUptoRow.holds Try.pinned (OpenSpec.upto cufStepsSpec)

/-- 'warplaw4.CufAll', WHERE WHAT IT READS IS OF BULK AT MOST 1048576: true; the input reads as it did. -/
def cufAllUptoRow : OpenClaim := { program := "ytcppmfmlafnmfaa", sum := "b44e218cc781e7a7858bca228195a7d0dfe1a8313cfc6a5fcd9124272805ec49", func := "warp/warplaw4.CufAll", spec := "cufAll", unfollowed := true, recurses := true, apart := false, narrowed := true }
def CufAllUptoSaid : Prop := cufAllUptoRow.holds Try.pinned (OpenSpec.upto cufAllSpec)

/-- 'warplaw4.CufChains', WHERE WHAT IT READS IS OF BULK AT MOST 1048576: true; the input reads as it did. -/
def cufChainsUptoRow : OpenClaim := { program := "ytcppmfmlafnmfaa", sum := "b44e218cc781e7a7858bca228195a7d0dfe1a8313cfc6a5fcd9124272805ec49", func := "warp/warplaw4.CufChains", spec := "cufChains", unfollowed := true, recurses := true, apart := false, narrowed := true }
def CufChainsUptoSaid : Prop := cufChainsUptoRow.holds Try.pinned (OpenSpec.upto cufChainsSpec)

end Rows
end Go.Proofs.Ytcppmfmlafnmfaa
