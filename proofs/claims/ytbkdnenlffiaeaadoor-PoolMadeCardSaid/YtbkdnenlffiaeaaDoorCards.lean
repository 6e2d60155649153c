/-
  DERIVED. GIVEN WITH THE SEED: THE CARDS: each row of YtbkdnenlffiaeaaDoorRows.lean that lists a variable, with what it lists TIED to the program's text (the seventh form; the later family's looks); each row that meets fmt, with fmt's text TOLD by the authors' own Lean function (tested against real Go, not proved from fmt's source: count such statements apart). THE CARD IS WHAT COUNTS. Prove the row's statement (the work); the ties are given (YtbkdnenlffiaeaaDoorTie.lean); close each card by the builder's one call (the guide's Derived/Test/ToyasCard.lean, 'card_holds'). Laid BY PROGRAM, IN A SANDBOX (cutbox-door.mjs). By AI agents, Wed Nov 11 2026. No macro, syntax, notation, axiom, sorry.
-/
import Derived.Test.YtbkdnenlffiaeaaDoorRows
import GoSem.ClaimSeven
namespace Go.Proofs.YtbkdnenlffiaeaaDoor
namespace Rows

/-- THE TIED CARD OF 'warplaw2.PickAll'. -/
def pickAllCard : Claim7 := { stood := { row := pickAllRow, standIns := [], harness := (true, "68b5b210c5f21b4b4e3e5e63476e6f700518ea1dfa24e23b8537e736ea2e5081"), looks := false }, kinds := [], alts := [], laidByText := true, laidKinds := [.data], laidTests := true, laidLooks := .later }
def PickAllCardSaid : Prop := Claim7.holds Tryd.pinned (.plain (OpenSpec.ofChange pickAllSpec)) pickAllCard

/-- THE TIED CARD OF 'warplaw2.PickRuns'. -/
def pickRunsCard : Claim7 := { stood := { row := pickRunsRow, standIns := [], harness := (true, "68b5b210c5f21b4b4e3e5e63476e6f700518ea1dfa24e23b8537e736ea2e5081"), looks := false }, kinds := [], alts := [], laidByText := true, laidKinds := [.data], laidTests := true, laidLooks := .later }
def PickRunsCardSaid : Prop := Claim7.holds Tryd.pinned (.plain (OpenSpec.ofChange pickRunsSpec)) pickRunsCard

/-- THE TIED CARD OF 'warplaw2.PickTurns'. -/
def pickTurnsCard : Claim7 := { stood := { row := pickTurnsRow, standIns := [], harness := (true, "68b5b210c5f21b4b4e3e5e63476e6f700518ea1dfa24e23b8537e736ea2e5081"), looks := false }, kinds := [], alts := [], laidByText := true, laidKinds := [.data], laidTests := true, laidLooks := .later }
def PickTurnsCardSaid : Prop := Claim7.holds Tryd.pinned (.plain (OpenSpec.ofChange pickTurnsSpec)) pickTurnsCard

/-- THE TIED CARD OF 'warplaw2.PickPlaces'. -/
def pickPlacesCard : Claim7 := { stood := { row := pickPlacesRow, standIns := [], harness := (true, "68b5b210c5f21b4b4e3e5e63476e6f700518ea1dfa24e23b8537e736ea2e5081"), looks := false }, kinds := [], alts := [], laidByText := true, laidKinds := [.data], laidTests := true, laidLooks := .later }
def PickPlacesCardSaid : Prop := Claim7.holds Tryd.pinned (.plain (OpenSpec.ofChange pickPlacesSpec)) pickPlacesCard

/-- THE TIED CARD OF 'warplaw24.PoolAll'. -/
def poolAllCard : Claim7 := { stood := { row := poolAllRow, standIns := [], harness := (true, "68b5b210c5f21b4b4e3e5e63476e6f700518ea1dfa24e23b8537e736ea2e5081"), looks := false }, kinds := [], alts := [], laidByText := true, laidKinds := [.data], laidTests := true, laidLooks := .later }
def PoolAllCardSaid : Prop := Claim7.holds Tryd.pinned (.plain (OpenSpec.ofChange poolAllSpec)) poolAllCard

/-- THE TIED CARD OF 'warplaw24.PoolMade'. -/
def poolMadeCard : Claim7 := { stood := { row := poolMadeRow, standIns := [], harness := (true, "68b5b210c5f21b4b4e3e5e63476e6f700518ea1dfa24e23b8537e736ea2e5081"), looks := false }, kinds := [], alts := [], laidByText := true, laidKinds := [.data], laidTests := true, laidLooks := .later }
def PoolMadeCardSaid : Prop := Claim7.holds Tryd.pinned (.plain (OpenSpec.ofChange poolMadeSpec)) poolMadeCard

/-- THE TIED CARD OF 'warplaw24.PoolWaves'. -/
def poolWavesCard : Claim7 := { stood := { row := poolWavesRow, standIns := [], harness := (true, "68b5b210c5f21b4b4e3e5e63476e6f700518ea1dfa24e23b8537e736ea2e5081"), looks := false }, kinds := [], alts := [], laidByText := true, laidKinds := [.data], laidTests := true, laidLooks := .later }
def PoolWavesCardSaid : Prop := Claim7.holds Tryd.pinned (.plain (OpenSpec.ofChange poolWavesSpec)) poolWavesCard

/-- THE TIED CARD OF 'warplaw24.PoolLimits'. -/
def poolLimitsCard : Claim7 := { stood := { row := poolLimitsRow, standIns := [], harness := (true, "68b5b210c5f21b4b4e3e5e63476e6f700518ea1dfa24e23b8537e736ea2e5081"), looks := false }, kinds := [], alts := [], laidByText := true, laidKinds := [.data], laidTests := true, laidLooks := .later }
def PoolLimitsCardSaid : Prop := Claim7.holds Tryd.pinned (.plain (OpenSpec.ofChange poolLimitsSpec)) poolLimitsCard

/-- THE TIED CARD OF 'warplaw24.PoolOne'. -/
def poolOneCard : Claim7 := { stood := { row := poolOneRow, standIns := [], harness := (true, "68b5b210c5f21b4b4e3e5e63476e6f700518ea1dfa24e23b8537e736ea2e5081"), looks := false }, kinds := [], alts := [], laidByText := true, laidKinds := [.data], laidTests := true, laidLooks := .later }
def PoolOneCardSaid : Prop := Claim7.holds Tryd.pinned (.plain (OpenSpec.ofChange poolOneSpec)) poolOneCard

/-- THE SECOND FORM's CARD OF 'warplaw2.PickAll'. -/
def pickAllUptoCard : Claim7 := { stood := { row := pickAllUptoRow, standIns := [], harness := (true, "68b5b210c5f21b4b4e3e5e63476e6f700518ea1dfa24e23b8537e736ea2e5081"), looks := false }, kinds := [], alts := [], laidByText := true, laidKinds := [.data], laidTests := true, laidLooks := .later }
def PickAllUptoCardSaid : Prop := Claim7.holds Tryd.pinned (.plain (OpenSpec.upto pickAllSpec)) pickAllUptoCard

/-- THE SECOND FORM's CARD OF 'warplaw2.PickRuns'. -/
def pickRunsUptoCard : Claim7 := { stood := { row := pickRunsUptoRow, standIns := [], harness := (true, "68b5b210c5f21b4b4e3e5e63476e6f700518ea1dfa24e23b8537e736ea2e5081"), looks := false }, kinds := [], alts := [], laidByText := true, laidKinds := [.data], laidTests := true, laidLooks := .later }
def PickRunsUptoCardSaid : Prop := Claim7.holds Tryd.pinned (.plain (OpenSpec.upto pickRunsSpec)) pickRunsUptoCard

/-- THE SECOND FORM's CARD OF 'warplaw2.PickTurns'. -/
def pickTurnsUptoCard : Claim7 := { stood := { row := pickTurnsUptoRow, standIns := [], harness := (true, "68b5b210c5f21b4b4e3e5e63476e6f700518ea1dfa24e23b8537e736ea2e5081"), looks := false }, kinds := [], alts := [], laidByText := true, laidKinds := [.data], laidTests := true, laidLooks := .later }
def PickTurnsUptoCardSaid : Prop := Claim7.holds Tryd.pinned (.plain (OpenSpec.upto pickTurnsSpec)) pickTurnsUptoCard

/-- THE SECOND FORM's CARD OF 'warplaw2.PickPlaces'. -/
def pickPlacesUptoCard : Claim7 := { stood := { row := pickPlacesUptoRow, standIns := [], harness := (true, "68b5b210c5f21b4b4e3e5e63476e6f700518ea1dfa24e23b8537e736ea2e5081"), looks := false }, kinds := [], alts := [], laidByText := true, laidKinds := [.data], laidTests := true, laidLooks := .later }
def PickPlacesUptoCardSaid : Prop := Claim7.holds Tryd.pinned (.plain (OpenSpec.upto pickPlacesSpec)) pickPlacesUptoCard

/-- THE SECOND FORM's CARD OF 'warplaw24.PoolAll'. -/
def poolAllUptoCard : Claim7 := { stood := { row := poolAllUptoRow, standIns := [], harness := (true, "68b5b210c5f21b4b4e3e5e63476e6f700518ea1dfa24e23b8537e736ea2e5081"), looks := false }, kinds := [], alts := [], laidByText := true, laidKinds := [.data], laidTests := true, laidLooks := .later }
def PoolAllUptoCardSaid : Prop := Claim7.holds Tryd.pinned (.plain (OpenSpec.upto poolAllSpec)) poolAllUptoCard

/-- THE SECOND FORM's CARD OF 'warplaw24.PoolMade'. -/
def poolMadeUptoCard : Claim7 := { stood := { row := poolMadeUptoRow, standIns := [], harness := (true, "68b5b210c5f21b4b4e3e5e63476e6f700518ea1dfa24e23b8537e736ea2e5081"), looks := false }, kinds := [], alts := [], laidByText := true, laidKinds := [.data], laidTests := true, laidLooks := .later }
def PoolMadeUptoCardSaid : Prop := Claim7.holds Tryd.pinned (.plain (OpenSpec.upto poolMadeSpec)) poolMadeUptoCard

/-- THE SECOND FORM's CARD OF 'warplaw24.PoolWaves'. -/
def poolWavesUptoCard : Claim7 := { stood := { row := poolWavesUptoRow, standIns := [], harness := (true, "68b5b210c5f21b4b4e3e5e63476e6f700518ea1dfa24e23b8537e736ea2e5081"), looks := false }, kinds := [], alts := [], laidByText := true, laidKinds := [.data], laidTests := true, laidLooks := .later }
def PoolWavesUptoCardSaid : Prop := Claim7.holds Tryd.pinned (.plain (OpenSpec.upto poolWavesSpec)) poolWavesUptoCard

/-- THE SECOND FORM's CARD OF 'warplaw24.PoolLimits'. -/
def poolLimitsUptoCard : Claim7 := { stood := { row := poolLimitsUptoRow, standIns := [], harness := (true, "68b5b210c5f21b4b4e3e5e63476e6f700518ea1dfa24e23b8537e736ea2e5081"), looks := false }, kinds := [], alts := [], laidByText := true, laidKinds := [.data], laidTests := true, laidLooks := .later }
def PoolLimitsUptoCardSaid : Prop := Claim7.holds Tryd.pinned (.plain (OpenSpec.upto poolLimitsSpec)) poolLimitsUptoCard

/-- THE SECOND FORM's CARD OF 'warplaw24.PoolOne'. -/
def poolOneUptoCard : Claim7 := { stood := { row := poolOneUptoRow, standIns := [], harness := (true, "68b5b210c5f21b4b4e3e5e63476e6f700518ea1dfa24e23b8537e736ea2e5081"), looks := false }, kinds := [], alts := [], laidByText := true, laidKinds := [.data], laidTests := true, laidLooks := .later }
def PoolOneUptoCardSaid : Prop := Claim7.holds Tryd.pinned (.plain (OpenSpec.upto poolOneSpec)) poolOneUptoCard
end Rows
end Go.Proofs.YtbkdnenlffiaeaaDoor
