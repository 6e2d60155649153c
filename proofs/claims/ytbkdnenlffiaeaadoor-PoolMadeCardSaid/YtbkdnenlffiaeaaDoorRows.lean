/-
  NARROWER THAN 'FOR EVERY INPUT', by the rows' own cells (each row's printed sentence says how): PickAll: laid · PickRuns: laid · PickTurns: laid · PickPlaces: laid · PoolAll: laid · PoolMade: laid · PoolWaves: laid · PoolLimits: laid · PoolOne: laid.
  DERIVED. THE GIVEN ROWS OF THIS SEAT. 9 by the template 'for every input the law returns true; each argument reads behind the call as it read before'; 0 by the template 'total and deterministic' (their statements: YtbkdnenlffiaeaaDoorTotals.lean).
  GIVEN WITH THE SEED: the statements are not yours to turn. If you find one false, say at which input.
  Laid BY PROGRAM, IN A SANDBOX (cutbox-rows.mjs): the forced cells as the released guide's own fill.sh prints them over the translation 9f87e6576901d8fd… (all of the seat's roots in one cut). By AI agents, Wed Nov 11 2026. No macro, syntax, notation, axiom, sorry.
-/
import Derived.Test.YtbkdnenlffiaeaaDoorChecked
import GoSem.Claim
import GoSem.ClaimJoined
import GoSem.ClaimMapViews
import Derived.JoinedTies
import Derived.KernelRfl
namespace Go.Proofs.YtbkdnenlffiaeaaDoor
/- THE CELL 'sum', in the pinned program and in every row, IS THE sha256 OF THE DUMP (.gsa) THAT YtbkdnenlffiaeaaDoorProg.lean LOADS. Nothing in Lean hashes anything: it is a label: what it is worth is what the hold of that sum in a sandbox is worth. -/
noncomputable def Tryd.pinned : Pinned := { name := "ytbkdnenlffiaeaadoor", sum := "9f87e6576901d8fda42c2f45b3d7b10c1d464f392025ea0a201023d93ce18fde", checked := Tryd.checked }
namespace Rows
def none {H : Type} : Left H := { results := [], args := [] }

/- WHAT THE LISTED PACKAGE-LEVEL VARIABLES READ AS WHEN THE CALL BEGINS. Each datum BY PROGRAM (the guide's laid-datum.mjs) off the statement by which the dump's own 'gosem.cut.vars' lays the variable. In a bare row this is a premise. The card (YtbkdnenlffiaeaaDoorCards.lean) ties it to the program's text. -/
def laid_math_bits_deBruijn64tab {H : Type} : DataW H := .agg [.lit (.int .u8 0), .lit (.int .u8 1), .lit (.int .u8 56), .lit (.int .u8 2), .lit (.int .u8 57), .lit (.int .u8 49), .lit (.int .u8 28), .lit (.int .u8 3), .lit (.int .u8 61), .lit (.int .u8 58), .lit (.int .u8 42), .lit (.int .u8 50), .lit (.int .u8 38), .lit (.int .u8 29), .lit (.int .u8 17), .lit (.int .u8 4), .lit (.int .u8 62), .lit (.int .u8 47), .lit (.int .u8 59), .lit (.int .u8 36), .lit (.int .u8 45), .lit (.int .u8 43), .lit (.int .u8 51), .lit (.int .u8 22), .lit (.int .u8 53), .lit (.int .u8 39), .lit (.int .u8 33), .lit (.int .u8 30), .lit (.int .u8 24), .lit (.int .u8 18), .lit (.int .u8 12), .lit (.int .u8 5), .lit (.int .u8 63), .lit (.int .u8 55), .lit (.int .u8 48), .lit (.int .u8 27), .lit (.int .u8 60), .lit (.int .u8 41), .lit (.int .u8 37), .lit (.int .u8 16), .lit (.int .u8 46), .lit (.int .u8 35), .lit (.int .u8 44), .lit (.int .u8 21), .lit (.int .u8 52), .lit (.int .u8 32), .lit (.int .u8 23), .lit (.int .u8 11), .lit (.int .u8 54), .lit (.int .u8 26), .lit (.int .u8 40), .lit (.int .u8 15), .lit (.int .u8 34), .lit (.int .u8 20), .lit (.int .u8 31), .lit (.int .u8 10), .lit (.int .u8 25), .lit (.int .u8 14), .lit (.int .u8 19), .lit (.int .u8 9), .lit (.int .u8 13), .lit (.int .u8 8), .lit (.int .u8 7), .lit (.int .u8 6)]

/-- 'warplaw2.PickAll': WHATEVER THE INPUT: true; the input reads as it did. -/
def pickAllSpec : ChangeSpec := { name := "pickAll", fn := fun _ => fun
  | [d1, d2] => { results := [.lit (.bool true)], args := [d1, d2] }
  | _ => none }
def pickAllRow : OpenClaim := { program := "ytbkdnenlffiaeaadoor", sum := "9f87e6576901d8fda42c2f45b3d7b10c1d464f392025ea0a201023d93ce18fde", func := "warp/warplaw2.PickAll", spec := "pickAll", named := ["math/bits.deBruijn64tab"], apart := false, laid := [("math/bits.deBruijn64tab", laid_math_bits_deBruijn64tab)] }
def PickAllSaid : Prop := pickAllRow.holds Tryd.pinned (OpenSpec.ofChange pickAllSpec)

/-- ITS FALSE NEIGHBOUR: 'it returns false'. Refute it at one input. -/
def pickAllWrong : ChangeSpec := { name := "pickAll", fn := fun _ => fun
  | [d1, d2] => { results := [.lit (.bool false)], args := [d1, d2] }
  | _ => none }
def PickAllWrongFalsely : Prop := pickAllRow.holds Tryd.pinned (OpenSpec.ofChange pickAllWrong)

/-- 'warplaw2.PickRuns': WHATEVER THE INPUT: true; the input reads as it did. -/
def pickRunsSpec : ChangeSpec := { name := "pickRuns", fn := fun _ => fun
  | [d1, d2] => { results := [.lit (.bool true)], args := [d1, d2] }
  | _ => none }
def pickRunsRow : OpenClaim := { program := "ytbkdnenlffiaeaadoor", sum := "9f87e6576901d8fda42c2f45b3d7b10c1d464f392025ea0a201023d93ce18fde", func := "warp/warplaw2.PickRuns", spec := "pickRuns", named := ["math/bits.deBruijn64tab"], apart := false, laid := [("math/bits.deBruijn64tab", laid_math_bits_deBruijn64tab)] }
def PickRunsSaid : Prop := pickRunsRow.holds Tryd.pinned (OpenSpec.ofChange pickRunsSpec)

/-- ITS FALSE NEIGHBOUR: 'it returns false'. Refute it at one input. -/
def pickRunsWrong : ChangeSpec := { name := "pickRuns", fn := fun _ => fun
  | [d1, d2] => { results := [.lit (.bool false)], args := [d1, d2] }
  | _ => none }
def PickRunsWrongFalsely : Prop := pickRunsRow.holds Tryd.pinned (OpenSpec.ofChange pickRunsWrong)

/-- 'warplaw2.PickTurns': WHATEVER THE INPUT: true; the input reads as it did. -/
def pickTurnsSpec : ChangeSpec := { name := "pickTurns", fn := fun _ => fun
  | [d1, d2] => { results := [.lit (.bool true)], args := [d1, d2] }
  | _ => none }
def pickTurnsRow : OpenClaim := { program := "ytbkdnenlffiaeaadoor", sum := "9f87e6576901d8fda42c2f45b3d7b10c1d464f392025ea0a201023d93ce18fde", func := "warp/warplaw2.PickTurns", spec := "pickTurns", named := ["math/bits.deBruijn64tab"], apart := false, laid := [("math/bits.deBruijn64tab", laid_math_bits_deBruijn64tab)] }
def PickTurnsSaid : Prop := pickTurnsRow.holds Tryd.pinned (OpenSpec.ofChange pickTurnsSpec)

/-- ITS FALSE NEIGHBOUR: 'it returns false'. Refute it at one input. -/
def pickTurnsWrong : ChangeSpec := { name := "pickTurns", fn := fun _ => fun
  | [d1, d2] => { results := [.lit (.bool false)], args := [d1, d2] }
  | _ => none }
def PickTurnsWrongFalsely : Prop := pickTurnsRow.holds Tryd.pinned (OpenSpec.ofChange pickTurnsWrong)

/-- 'warplaw2.PickPlaces': WHATEVER THE INPUT: true; the input reads as it did. -/
def pickPlacesSpec : ChangeSpec := { name := "pickPlaces", fn := fun _ => fun
  | [d1, d2] => { results := [.lit (.bool true)], args := [d1, d2] }
  | _ => none }
def pickPlacesRow : OpenClaim := { program := "ytbkdnenlffiaeaadoor", sum := "9f87e6576901d8fda42c2f45b3d7b10c1d464f392025ea0a201023d93ce18fde", func := "warp/warplaw2.PickPlaces", spec := "pickPlaces", named := ["math/bits.deBruijn64tab"], apart := false, laid := [("math/bits.deBruijn64tab", laid_math_bits_deBruijn64tab)] }
def PickPlacesSaid : Prop := pickPlacesRow.holds Tryd.pinned (OpenSpec.ofChange pickPlacesSpec)

/-- ITS FALSE NEIGHBOUR: 'it returns false'. Refute it at one input. -/
def pickPlacesWrong : ChangeSpec := { name := "pickPlaces", fn := fun _ => fun
  | [d1, d2] => { results := [.lit (.bool false)], args := [d1, d2] }
  | _ => none }
def PickPlacesWrongFalsely : Prop := pickPlacesRow.holds Tryd.pinned (OpenSpec.ofChange pickPlacesWrong)

/-- 'warplaw24.PoolAll': WHATEVER THE INPUT: true; the input reads as it did. -/
def poolAllSpec : ChangeSpec := { name := "poolAll", fn := fun _ => fun
  | [d1, d2, d3] => { results := [.lit (.bool true)], args := [d1, d2, d3] }
  | _ => none }
def poolAllRow : OpenClaim := { program := "ytbkdnenlffiaeaadoor", sum := "9f87e6576901d8fda42c2f45b3d7b10c1d464f392025ea0a201023d93ce18fde", func := "warp/warplaw24.PoolAll", spec := "poolAll", named := ["math/bits.deBruijn64tab"], apart := false, laid := [("math/bits.deBruijn64tab", laid_math_bits_deBruijn64tab)] }
def PoolAllSaid : Prop := poolAllRow.holds Tryd.pinned (OpenSpec.ofChange poolAllSpec)

/-- ITS FALSE NEIGHBOUR: 'it returns false'. Refute it at one input. -/
def poolAllWrong : ChangeSpec := { name := "poolAll", fn := fun _ => fun
  | [d1, d2, d3] => { results := [.lit (.bool false)], args := [d1, d2, d3] }
  | _ => none }
def PoolAllWrongFalsely : Prop := poolAllRow.holds Tryd.pinned (OpenSpec.ofChange poolAllWrong)

/-- 'warplaw24.PoolMade': WHATEVER THE INPUT: true; the input reads as it did. -/
def poolMadeSpec : ChangeSpec := { name := "poolMade", fn := fun _ => fun
  | [d1, d2, d3] => { results := [.lit (.bool true)], args := [d1, d2, d3] }
  | _ => none }
def poolMadeRow : OpenClaim := { program := "ytbkdnenlffiaeaadoor", sum := "9f87e6576901d8fda42c2f45b3d7b10c1d464f392025ea0a201023d93ce18fde", func := "warp/warplaw24.PoolMade", spec := "poolMade", named := ["math/bits.deBruijn64tab"], apart := false, laid := [("math/bits.deBruijn64tab", laid_math_bits_deBruijn64tab)] }
def PoolMadeSaid : Prop := poolMadeRow.holds Tryd.pinned (OpenSpec.ofChange poolMadeSpec)

/-- ITS FALSE NEIGHBOUR: 'it returns false'. Refute it at one input. -/
def poolMadeWrong : ChangeSpec := { name := "poolMade", fn := fun _ => fun
  | [d1, d2, d3] => { results := [.lit (.bool false)], args := [d1, d2, d3] }
  | _ => none }
def PoolMadeWrongFalsely : Prop := poolMadeRow.holds Tryd.pinned (OpenSpec.ofChange poolMadeWrong)

/-- 'warplaw24.PoolWaves': WHATEVER THE INPUT: true; the input reads as it did. -/
def poolWavesSpec : ChangeSpec := { name := "poolWaves", fn := fun _ => fun
  | [d1, d2, d3] => { results := [.lit (.bool true)], args := [d1, d2, d3] }
  | _ => none }
def poolWavesRow : OpenClaim := { program := "ytbkdnenlffiaeaadoor", sum := "9f87e6576901d8fda42c2f45b3d7b10c1d464f392025ea0a201023d93ce18fde", func := "warp/warplaw24.PoolWaves", spec := "poolWaves", named := ["math/bits.deBruijn64tab"], apart := false, laid := [("math/bits.deBruijn64tab", laid_math_bits_deBruijn64tab)] }
def PoolWavesSaid : Prop := poolWavesRow.holds Tryd.pinned (OpenSpec.ofChange poolWavesSpec)

/-- ITS FALSE NEIGHBOUR: 'it returns false'. Refute it at one input. -/
def poolWavesWrong : ChangeSpec := { name := "poolWaves", fn := fun _ => fun
  | [d1, d2, d3] => { results := [.lit (.bool false)], args := [d1, d2, d3] }
  | _ => none }
def PoolWavesWrongFalsely : Prop := poolWavesRow.holds Tryd.pinned (OpenSpec.ofChange poolWavesWrong)

/-- 'warplaw24.PoolLimits': WHATEVER THE INPUT: true; the input reads as it did. -/
def poolLimitsSpec : ChangeSpec := { name := "poolLimits", fn := fun _ => fun
  | [d1, d2] => { results := [.lit (.bool true)], args := [d1, d2] }
  | _ => none }
def poolLimitsRow : OpenClaim := { program := "ytbkdnenlffiaeaadoor", sum := "9f87e6576901d8fda42c2f45b3d7b10c1d464f392025ea0a201023d93ce18fde", func := "warp/warplaw24.PoolLimits", spec := "poolLimits", named := ["math/bits.deBruijn64tab"], apart := false, laid := [("math/bits.deBruijn64tab", laid_math_bits_deBruijn64tab)] }
def PoolLimitsSaid : Prop := poolLimitsRow.holds Tryd.pinned (OpenSpec.ofChange poolLimitsSpec)

/-- ITS FALSE NEIGHBOUR: 'it returns false'. Refute it at one input. -/
def poolLimitsWrong : ChangeSpec := { name := "poolLimits", fn := fun _ => fun
  | [d1, d2] => { results := [.lit (.bool false)], args := [d1, d2] }
  | _ => none }
def PoolLimitsWrongFalsely : Prop := poolLimitsRow.holds Tryd.pinned (OpenSpec.ofChange poolLimitsWrong)

/-- 'warplaw24.PoolOne': WHATEVER THE INPUT: true; the input reads as it did. -/
def poolOneSpec : ChangeSpec := { name := "poolOne", fn := fun _ => fun
  | [d1, d2] => { results := [.lit (.bool true)], args := [d1, d2] }
  | _ => none }
def poolOneRow : OpenClaim := { program := "ytbkdnenlffiaeaadoor", sum := "9f87e6576901d8fda42c2f45b3d7b10c1d464f392025ea0a201023d93ce18fde", func := "warp/warplaw24.PoolOne", spec := "poolOne", named := ["math/bits.deBruijn64tab"], apart := false, laid := [("math/bits.deBruijn64tab", laid_math_bits_deBruijn64tab)] }
def PoolOneSaid : Prop := poolOneRow.holds Tryd.pinned (OpenSpec.ofChange poolOneSpec)

/-- ITS FALSE NEIGHBOUR: 'it returns false'. Refute it at one input. -/
def poolOneWrong : ChangeSpec := { name := "poolOne", fn := fun _ => fun
  | [d1, d2] => { results := [.lit (.bool false)], args := [d1, d2] }
  | _ => none }
def PoolOneWrongFalsely : Prop := poolOneRow.holds Tryd.pinned (OpenSpec.ofChange poolOneWrong)

/- THE SECOND FORM. 'bulk': how many values and letters a reading holds, each counted each time it is reached (what is shared counts as often as it is met; a slice's spare places count too). A statement '..UptoSaid' is the law's where the arguments, and the package variables that the reading takes, are together of bulk at most 1048576: NARROWER than '..Said'. Prove '..Said' where nothing that the law and all that it calls make is longer than what came in: it says more and counts as full. Else prove '..UptoSaid'. A law counts once. -/
mutual
def uptoBulk {H : Type} : DataW H → Nat
  | .lit (.string bytes) => bytes.length + 1
  | .lit _ => 1
  | .nil => 1
  | .ptr d => uptoBulk d + 1
  | .slice elems spare => uptoBulkAll elems + uptoBulkAll spare + 1
  | .agg parts => uptoBulkAll parts + 1
  | .iface _ d => uptoBulk d + 1
  | .map entries => uptoBulkEntries entries + 1
  | .held _ => 1
def uptoBulkAll {H : Type} : List (DataW H) → Nat
  | [] => 0
  | d :: r => uptoBulk d + uptoBulkAll r
def uptoBulkEntries {H : Type} : List (Lit × DataW H) → Nat
  | [] => 0
  | x :: r => uptoBulkEntry x + uptoBulkEntries r
def uptoBulkEntry {H : Type} : Lit × DataW H → Nat
  | (.string bytes, d) => bytes.length + uptoBulk d + 1
  | (_, d) => uptoBulk d + 1
 end
def uptoSmall : (H : Type) → List (DataW H) → Bool := fun _ ds => decide (uptoBulkAll ds ≤ 1048576)
def OpenSpec.upto (s : _root_.Go.ChangeSpec) : _root_.Go.OpenSpec := { _root_.Go.OpenSpec.ofChange s with cond := some uptoSmall }

/-- 'warplaw2.PickAll', WHERE WHAT IT READS IS OF BULK AT MOST 1048576: true; the input reads as it did. -/
def pickAllUptoRow : OpenClaim := { program := "ytbkdnenlffiaeaadoor", sum := "9f87e6576901d8fda42c2f45b3d7b10c1d464f392025ea0a201023d93ce18fde", func := "warp/warplaw2.PickAll", spec := "pickAll", named := ["math/bits.deBruijn64tab"], apart := false, laid := [("math/bits.deBruijn64tab", laid_math_bits_deBruijn64tab)], narrowed := true }
def PickAllUptoSaid : Prop := pickAllUptoRow.holds Tryd.pinned (OpenSpec.upto pickAllSpec)

/-- 'warplaw2.PickRuns', WHERE WHAT IT READS IS OF BULK AT MOST 1048576: true; the input reads as it did. -/
def pickRunsUptoRow : OpenClaim := { program := "ytbkdnenlffiaeaadoor", sum := "9f87e6576901d8fda42c2f45b3d7b10c1d464f392025ea0a201023d93ce18fde", func := "warp/warplaw2.PickRuns", spec := "pickRuns", named := ["math/bits.deBruijn64tab"], apart := false, laid := [("math/bits.deBruijn64tab", laid_math_bits_deBruijn64tab)], narrowed := true }
def PickRunsUptoSaid : Prop := pickRunsUptoRow.holds Tryd.pinned (OpenSpec.upto pickRunsSpec)

/-- 'warplaw2.PickTurns', WHERE WHAT IT READS IS OF BULK AT MOST 1048576: true; the input reads as it did. -/
def pickTurnsUptoRow : OpenClaim := { program := "ytbkdnenlffiaeaadoor", sum := "9f87e6576901d8fda42c2f45b3d7b10c1d464f392025ea0a201023d93ce18fde", func := "warp/warplaw2.PickTurns", spec := "pickTurns", named := ["math/bits.deBruijn64tab"], apart := false, laid := [("math/bits.deBruijn64tab", laid_math_bits_deBruijn64tab)], narrowed := true }
def PickTurnsUptoSaid : Prop := pickTurnsUptoRow.holds Tryd.pinned (OpenSpec.upto pickTurnsSpec)

/-- 'warplaw2.PickPlaces', WHERE WHAT IT READS IS OF BULK AT MOST 1048576: true; the input reads as it did. -/
def pickPlacesUptoRow : OpenClaim := { program := "ytbkdnenlffiaeaadoor", sum := "9f87e6576901d8fda42c2f45b3d7b10c1d464f392025ea0a201023d93ce18fde", func := "warp/warplaw2.PickPlaces", spec := "pickPlaces", named := ["math/bits.deBruijn64tab"], apart := false, laid := [("math/bits.deBruijn64tab", laid_math_bits_deBruijn64tab)], narrowed := true }
def PickPlacesUptoSaid : Prop := pickPlacesUptoRow.holds Tryd.pinned (OpenSpec.upto pickPlacesSpec)

/-- 'warplaw24.PoolAll', WHERE WHAT IT READS IS OF BULK AT MOST 1048576: true; the input reads as it did. -/
def poolAllUptoRow : OpenClaim := { program := "ytbkdnenlffiaeaadoor", sum := "9f87e6576901d8fda42c2f45b3d7b10c1d464f392025ea0a201023d93ce18fde", func := "warp/warplaw24.PoolAll", spec := "poolAll", named := ["math/bits.deBruijn64tab"], apart := false, laid := [("math/bits.deBruijn64tab", laid_math_bits_deBruijn64tab)], narrowed := true }
def PoolAllUptoSaid : Prop := poolAllUptoRow.holds Tryd.pinned (OpenSpec.upto poolAllSpec)

/-- 'warplaw24.PoolMade', WHERE WHAT IT READS IS OF BULK AT MOST 1048576: true; the input reads as it did. -/
def poolMadeUptoRow : OpenClaim := { program := "ytbkdnenlffiaeaadoor", sum := "9f87e6576901d8fda42c2f45b3d7b10c1d464f392025ea0a201023d93ce18fde", func := "warp/warplaw24.PoolMade", spec := "poolMade", named := ["math/bits.deBruijn64tab"], apart := false, laid := [("math/bits.deBruijn64tab", laid_math_bits_deBruijn64tab)], narrowed := true }
def PoolMadeUptoSaid : Prop := poolMadeUptoRow.holds Tryd.pinned (OpenSpec.upto poolMadeSpec)

/-- 'warplaw24.PoolWaves', WHERE WHAT IT READS IS OF BULK AT MOST 1048576: true; the input reads as it did. -/
def poolWavesUptoRow : OpenClaim := { program := "ytbkdnenlffiaeaadoor", sum := "9f87e6576901d8fda42c2f45b3d7b10c1d464f392025ea0a201023d93ce18fde", func := "warp/warplaw24.PoolWaves", spec := "poolWaves", named := ["math/bits.deBruijn64tab"], apart := false, laid := [("math/bits.deBruijn64tab", laid_math_bits_deBruijn64tab)], narrowed := true }
def PoolWavesUptoSaid : Prop := poolWavesUptoRow.holds Tryd.pinned (OpenSpec.upto poolWavesSpec)

/-- 'warplaw24.PoolLimits', WHERE WHAT IT READS IS OF BULK AT MOST 1048576: true; the input reads as it did. -/
def poolLimitsUptoRow : OpenClaim := { program := "ytbkdnenlffiaeaadoor", sum := "9f87e6576901d8fda42c2f45b3d7b10c1d464f392025ea0a201023d93ce18fde", func := "warp/warplaw24.PoolLimits", spec := "poolLimits", named := ["math/bits.deBruijn64tab"], apart := false, laid := [("math/bits.deBruijn64tab", laid_math_bits_deBruijn64tab)], narrowed := true }
def PoolLimitsUptoSaid : Prop := poolLimitsUptoRow.holds Tryd.pinned (OpenSpec.upto poolLimitsSpec)

/-- 'warplaw24.PoolOne', WHERE WHAT IT READS IS OF BULK AT MOST 1048576: true; the input reads as it did. -/
def poolOneUptoRow : OpenClaim := { program := "ytbkdnenlffiaeaadoor", sum := "9f87e6576901d8fda42c2f45b3d7b10c1d464f392025ea0a201023d93ce18fde", func := "warp/warplaw24.PoolOne", spec := "poolOne", named := ["math/bits.deBruijn64tab"], apart := false, laid := [("math/bits.deBruijn64tab", laid_math_bits_deBruijn64tab)], narrowed := true }
def PoolOneUptoSaid : Prop := poolOneUptoRow.holds Tryd.pinned (OpenSpec.upto poolOneSpec)

end Rows
end Go.Proofs.YtbkdnenlffiaeaaDoor
