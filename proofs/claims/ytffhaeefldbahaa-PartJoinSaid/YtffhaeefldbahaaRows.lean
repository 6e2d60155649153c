/-
  No cell of these rows narrows 'for every input' (looked for: loops, veiled, ifaces, maps, wideKeys, modest, calm, conditions, laid).
  DERIVED. THE GIVEN ROWS OF THIS SEAT. 6 by the template 'for every input the law returns true; each argument reads behind the call as it read before'; 0 by the template 'total and deterministic' (their statements: YtffhaeefldbahaaTotals.lean).
  GIVEN WITH THE SEED: the statements are not yours to turn. If you find one false, say at which input.
  Laid BY PROGRAM, IN A SANDBOX (cutbox-rows.mjs): the forced cells as the released guide's own fill.sh prints them over the translation 44888fc4e1e84fb6… (all of the seat's roots in one cut). By AI agents, Wed Nov 11 2026. No macro, syntax, notation, axiom, sorry.
-/
import Derived.Test.YtffhaeefldbahaaChecked
import GoSem.Claim
import GoSem.ClaimJoined
import GoSem.ClaimMapViews
import Derived.JoinedTies
import Derived.KernelRfl
namespace Go.Proofs.Ytffhaeefldbahaa
/- THE CELL 'sum', in the pinned program and in every row, IS THE sha256 OF THE DUMP (.gsa) THAT YtffhaeefldbahaaProg.lean LOADS. Nothing in Lean hashes anything: it is a label: what it is worth is what the hold of that sum in a sandbox is worth. -/
noncomputable def Try.pinned : Pinned := { name := "ytffhaeefldbahaa", sum := "44888fc4e1e84fb662c60e8734d0e7dd095fbdfa8486254e12ca9a0da0703490", checked := Try.checked }
namespace Rows
def none {H : Type} : Left H := { results := [], args := [] }

/-- 'warplaw3.PartOrder': WHATEVER THE INPUT: true; the input reads as it did. -/
def partOrderSpec : ChangeSpec := { name := "partOrder", fn := fun _ => fun
  | [d1, d2, d3] => { results := [.lit (.bool true)], args := [d1, d2, d3] }
  | _ => none }
def partOrderRow : OpenClaim := { program := "ytffhaeefldbahaa", sum := "44888fc4e1e84fb662c60e8734d0e7dd095fbdfa8486254e12ca9a0da0703490", func := "warp/warplaw3.PartOrder", spec := "partOrder", plainKeys := false, apart := false }
def PartOrderSaid : Prop := partOrderRow.holds Try.pinned (OpenSpec.ofChange partOrderSpec)

/-- ITS FALSE NEIGHBOUR: 'it returns false'. Refute it at one input. -/
def partOrderWrong : ChangeSpec := { name := "partOrder", fn := fun _ => fun
  | [d1, d2, d3] => { results := [.lit (.bool false)], args := [d1, d2, d3] }
  | _ => none }
def PartOrderWrongFalsely : Prop := partOrderRow.holds Try.pinned (OpenSpec.ofChange partOrderWrong)

/-- 'warplaw3.PartLaws': WHATEVER THE INPUT: true; the input reads as it did. -/
def partLawsSpec : ChangeSpec := { name := "partLaws", fn := fun _ => fun
  | [d1, d2, d3, d4, d5] => { results := [.lit (.bool true)], args := [d1, d2, d3, d4, d5] }
  | _ => none }
def partLawsRow : OpenClaim := { program := "ytffhaeefldbahaa", sum := "44888fc4e1e84fb662c60e8734d0e7dd095fbdfa8486254e12ca9a0da0703490", func := "warp/warplaw3.PartLaws", spec := "partLaws", plainKeys := false, apart := false }
def PartLawsSaid : Prop := partLawsRow.holds Try.pinned (OpenSpec.ofChange partLawsSpec)

/-- ITS FALSE NEIGHBOUR: 'it returns false'. Refute it at one input. -/
def partLawsWrong : ChangeSpec := { name := "partLaws", fn := fun _ => fun
  | [d1, d2, d3, d4, d5] => { results := [.lit (.bool false)], args := [d1, d2, d3, d4, d5] }
  | _ => none }
def PartLawsWrongFalsely : Prop := partLawsRow.holds Try.pinned (OpenSpec.ofChange partLawsWrong)

/-- 'warplaw3.PartLe': WHATEVER THE INPUT: true; the input reads as it did. -/
def partLeSpec : ChangeSpec := { name := "partLe", fn := fun _ => fun
  | [d1, d2, d3, d4] => { results := [.lit (.bool true)], args := [d1, d2, d3, d4] }
  | _ => none }
def partLeRow : OpenClaim := { program := "ytffhaeefldbahaa", sum := "44888fc4e1e84fb662c60e8734d0e7dd095fbdfa8486254e12ca9a0da0703490", func := "warp/warplaw3.PartLe", spec := "partLe", plainKeys := false, apart := false }
def PartLeSaid : Prop := partLeRow.holds Try.pinned (OpenSpec.ofChange partLeSpec)

/-- ITS FALSE NEIGHBOUR: 'it returns false'. Refute it at one input. -/
def partLeWrong : ChangeSpec := { name := "partLe", fn := fun _ => fun
  | [d1, d2, d3, d4] => { results := [.lit (.bool false)], args := [d1, d2, d3, d4] }
  | _ => none }
def PartLeWrongFalsely : Prop := partLeRow.holds Try.pinned (OpenSpec.ofChange partLeWrong)

/-- 'warplaw3.PartJoin': WHATEVER THE INPUT: true; the input reads as it did. -/
def partJoinSpec : ChangeSpec := { name := "partJoin", fn := fun _ => fun
  | [d1, d2, d3] => { results := [.lit (.bool true)], args := [d1, d2, d3] }
  | _ => none }
def partJoinRow : OpenClaim := { program := "ytffhaeefldbahaa", sum := "44888fc4e1e84fb662c60e8734d0e7dd095fbdfa8486254e12ca9a0da0703490", func := "warp/warplaw3.PartJoin", spec := "partJoin", plainKeys := false, apart := false }
def PartJoinSaid : Prop := partJoinRow.holds Try.pinned (OpenSpec.ofChange partJoinSpec)

/-- ITS FALSE NEIGHBOUR: 'it returns false'. Refute it at one input. -/
def partJoinWrong : ChangeSpec := { name := "partJoin", fn := fun _ => fun
  | [d1, d2, d3] => { results := [.lit (.bool false)], args := [d1, d2, d3] }
  | _ => none }
def PartJoinWrongFalsely : Prop := partJoinRow.holds Try.pinned (OpenSpec.ofChange partJoinWrong)

/-- 'warplaw3.PartAll': WHATEVER THE INPUT: true; the input reads as it did. -/
def partAllSpec : ChangeSpec := { name := "partAll", fn := fun _ => fun
  | [d1, d2, d3, d4, d5] => { results := [.lit (.bool true)], args := [d1, d2, d3, d4, d5] }
  | _ => none }
def partAllRow : OpenClaim := { program := "ytffhaeefldbahaa", sum := "44888fc4e1e84fb662c60e8734d0e7dd095fbdfa8486254e12ca9a0da0703490", func := "warp/warplaw3.PartAll", spec := "partAll", plainKeys := false, apart := false }
def PartAllSaid : Prop := partAllRow.holds Try.pinned (OpenSpec.ofChange partAllSpec)

/-- ITS FALSE NEIGHBOUR: 'it returns false'. Refute it at one input. -/
def partAllWrong : ChangeSpec := { name := "partAll", fn := fun _ => fun
  | [d1, d2, d3, d4, d5] => { results := [.lit (.bool false)], args := [d1, d2, d3, d4, d5] }
  | _ => none }
def PartAllWrongFalsely : Prop := partAllRow.holds Try.pinned (OpenSpec.ofChange partAllWrong)

/-- 'warplaw3.PartMade': WHATEVER THE INPUT: true; the input reads as it did. -/
def partMadeSpec : ChangeSpec := { name := "partMade", fn := fun _ => fun
  | [d1, d2, d3, d4, d5] => { results := [.lit (.bool true)], args := [d1, d2, d3, d4, d5] }
  | _ => none }
def partMadeRow : OpenClaim := { program := "ytffhaeefldbahaa", sum := "44888fc4e1e84fb662c60e8734d0e7dd095fbdfa8486254e12ca9a0da0703490", func := "warp/warplaw3.PartMade", spec := "partMade", plainKeys := false, apart := false }
def PartMadeSaid : Prop := partMadeRow.holds Try.pinned (OpenSpec.ofChange partMadeSpec)

/-- ITS FALSE NEIGHBOUR: 'it returns false'. Refute it at one input. -/
def partMadeWrong : ChangeSpec := { name := "partMade", fn := fun _ => fun
  | [d1, d2, d3, d4, d5] => { results := [.lit (.bool false)], args := [d1, d2, d3, d4, d5] }
  | _ => none }
def PartMadeWrongFalsely : Prop := partMadeRow.holds Try.pinned (OpenSpec.ofChange partMadeWrong)

/- THE SECOND FORM. 'bulk': how many values and letters a reading holds, each counted each time it is reached (what is shared counts as often as it is met; a slice's spare places count too). A statement '..UptoSaid' is the law's where the arguments, and the package variables that the reading takes, are together of bulk at most 1048576: NARROWER than '..Said'. Prove '..Said' where nothing that the law and all that it calls make is longer than what came in: it says more and counts as full. Else prove '..UptoSaid'. A law counts once. -/
mutual
def uptoBulk {H : Type} : DataW H → Nat
  | .lit (.string bytes) => bytes.length + 1
  | .lit _ => 1
  | .nil => 1
  | .ptr d => uptoBulk d + 1
  | .slice elems spare => uptoBulkAll elems + uptoBulkAll spare + 1
  | .agg parts => uptoBulkAll parts + 1
  | .iface _ d => uptoBulk d + 1
  | .map entries => uptoBulkEntries entries + 1
  | .held _ => 1
def uptoBulkAll {H : Type} : List (DataW H) → Nat
  | [] => 0
  | d :: r => uptoBulk d + uptoBulkAll r
def uptoBulkEntries {H : Type} : List (Lit × DataW H) → Nat
  | [] => 0
  | x :: r => uptoBulkEntry x + uptoBulkEntries r
def uptoBulkEntry {H : Type} : Lit × DataW H → Nat
  | (.string bytes, d) => bytes.length + uptoBulk d + 1
  | (_, d) => uptoBulk d + 1
 end
def uptoSmall : (H : Type) → List (DataW H) → Bool := fun _ ds => decide (uptoBulkAll ds ≤ 1048576)
def OpenSpec.upto (s : _root_.Go.ChangeSpec) : _root_.Go.OpenSpec := { _root_.Go.OpenSpec.ofChange s with cond := some uptoSmall }

/-- 'warplaw3.PartOrder', WHERE WHAT IT READS IS OF BULK AT MOST 1048576: true; the input reads as it did. -/
def partOrderUptoRow : OpenClaim := { program := "ytffhaeefldbahaa", sum := "44888fc4e1e84fb662c60e8734d0e7dd095fbdfa8486254e12ca9a0da0703490", func := "warp/warplaw3.PartOrder", spec := "partOrder", plainKeys := false, apart := false, narrowed := true }
def PartOrderUptoSaid : Prop := partOrderUptoRow.holds Try.pinned (OpenSpec.upto partOrderSpec)

/-- 'warplaw3.PartLaws', WHERE WHAT IT READS IS OF BULK AT MOST 1048576: true; the input reads as it did. -/
def partLawsUptoRow : OpenClaim := { program := "ytffhaeefldbahaa", sum := "44888fc4e1e84fb662c60e8734d0e7dd095fbdfa8486254e12ca9a0da0703490", func := "warp/warplaw3.PartLaws", spec := "partLaws", plainKeys := false, apart := false, narrowed := true }
def PartLawsUptoSaid : Prop := partLawsUptoRow.holds Try.pinned (OpenSpec.upto partLawsSpec)

/-- 'warplaw3.PartLe', WHERE WHAT IT READS IS OF BULK AT MOST 1048576: true; the input reads as it did. -/
def partLeUptoRow : OpenClaim := { program := "ytffhaeefldbahaa", sum := "44888fc4e1e84fb662c60e8734d0e7dd095fbdfa8486254e12ca9a0da0703490", func := "warp/warplaw3.PartLe", spec := "partLe", plainKeys := false, apart := false, narrowed := true }
def PartLeUptoSaid : Prop := partLeUptoRow.holds Try.pinned (OpenSpec.upto partLeSpec)

/-- 'warplaw3.PartJoin', WHERE WHAT IT READS IS OF BULK AT MOST 1048576: true; the input reads as it did. -/
def partJoinUptoRow : OpenClaim := { program := "ytffhaeefldbahaa", sum := "44888fc4e1e84fb662c60e8734d0e7dd095fbdfa8486254e12ca9a0da0703490", func := "warp/warplaw3.PartJoin", spec := "partJoin", plainKeys := false, apart := false, narrowed := true }
def PartJoinUptoSaid : Prop := partJoinUptoRow.holds Try.pinned (OpenSpec.upto partJoinSpec)

/-- 'warplaw3.PartAll', WHERE WHAT IT READS IS OF BULK AT MOST 1048576: true; the input reads as it did. -/
def partAllUptoRow : OpenClaim := { program := "ytffhaeefldbahaa", sum := "44888fc4e1e84fb662c60e8734d0e7dd095fbdfa8486254e12ca9a0da0703490", func := "warp/warplaw3.PartAll", spec := "partAll", plainKeys := false, apart := false, narrowed := true }
def PartAllUptoSaid : Prop := partAllUptoRow.holds Try.pinned (OpenSpec.upto partAllSpec)

/-- 'warplaw3.PartMade', WHERE WHAT IT READS IS OF BULK AT MOST 1048576: true; the input reads as it did. -/
def partMadeUptoRow : OpenClaim := { program := "ytffhaeefldbahaa", sum := "44888fc4e1e84fb662c60e8734d0e7dd095fbdfa8486254e12ca9a0da0703490", func := "warp/warplaw3.PartMade", spec := "partMade", plainKeys := false, apart := false, narrowed := true }
def PartMadeUptoSaid : Prop := partMadeUptoRow.holds Try.pinned (OpenSpec.upto partMadeSpec)

end Rows
end Go.Proofs.Ytffhaeefldbahaa
