/-
  DERIVED. GIVEN WITH THE SEED: THE CARDS: each row of YtmgfkdnoclmbgaaDoorRows.lean that lists a variable, with what it lists TIED to the program's text (the seventh form; the later family's looks); each row that meets fmt, with fmt's text TOLD by the authors' own Lean function (tested against real Go, not proved from fmt's source: count such statements apart). THE CARD IS WHAT COUNTS. Prove the row's statement (the work); the ties are given (YtmgfkdnoclmbgaaDoorTie.lean); close each card by the builder's one call (the guide's Derived/Test/ToyasCard.lean, 'card_holds'). Laid BY PROGRAM, IN A SANDBOX (cutbox-door.mjs). By AI agents, Wed Nov 11 2026. No macro, syntax, notation, axiom, sorry.
-/
import Derived.Test.YtmgfkdnoclmbgaaDoorRows
import GoSem.ClaimSeven
namespace Go.Proofs.YtmgfkdnoclmbgaaDoor
namespace Rows

/-- THE TIED CARD OF 'warplaw8.TableAll'. -/
def tableAllCard : Claim7 := { stood := { row := tableAllRow, standIns := [], harness := (true, "149fe8abe8b9039e3a60898f9423f0cdeb0551d1407a3880c40d04a13498610b"), looks := false }, kinds := [], alts := [], laidByText := true, laidKinds := [.data], laidTests := true, laidLooks := .later }
def TableAllCardSaid : Prop := Claim7.holds Tryd.pinned (.plain (OpenSpec.ofChange tableAllSpec)) tableAllCard

/-- THE TIED CARD OF 'warplaw8.TableMade'. -/
def tableMadeCard : Claim7 := { stood := { row := tableMadeRow, standIns := [], harness := (true, "149fe8abe8b9039e3a60898f9423f0cdeb0551d1407a3880c40d04a13498610b"), looks := false }, kinds := [], alts := [], laidByText := true, laidKinds := [.data], laidTests := true, laidLooks := .later }
def TableMadeCardSaid : Prop := Claim7.holds Tryd.pinned (.plain (OpenSpec.ofChange tableMadeSpec)) tableMadeCard

/-- THE TIED CARD OF 'warplaw8.TableOnce'. -/
def tableOnceCard : Claim7 := { stood := { row := tableOnceRow, standIns := [], harness := (true, "149fe8abe8b9039e3a60898f9423f0cdeb0551d1407a3880c40d04a13498610b"), looks := false }, kinds := [], alts := [], laidByText := true, laidKinds := [.data], laidTests := true, laidLooks := .later }
def TableOnceCardSaid : Prop := Claim7.holds Tryd.pinned (.plain (OpenSpec.ofChange tableOnceSpec)) tableOnceCard

/-- THE TIED CARD OF 'warplaw8.TableAgain'. -/
def tableAgainCard : Claim7 := { stood := { row := tableAgainRow, standIns := [], harness := (true, "149fe8abe8b9039e3a60898f9423f0cdeb0551d1407a3880c40d04a13498610b"), looks := false }, kinds := [], alts := [], laidByText := true, laidKinds := [.data], laidTests := true, laidLooks := .later }
def TableAgainCardSaid : Prop := Claim7.holds Tryd.pinned (.plain (OpenSpec.ofChange tableAgainSpec)) tableAgainCard

/-- THE TIED CARD OF 'warplaw8.TableOne'. -/
def tableOneCard : Claim7 := { stood := { row := tableOneRow, standIns := [], harness := (true, "149fe8abe8b9039e3a60898f9423f0cdeb0551d1407a3880c40d04a13498610b"), looks := false }, kinds := [], alts := [], laidByText := true, laidKinds := [.data], laidTests := true, laidLooks := .later }
def TableOneCardSaid : Prop := Claim7.holds Tryd.pinned (.plain (OpenSpec.ofChange tableOneSpec)) tableOneCard

/-- THE SECOND FORM's CARD OF 'warplaw8.TableAll'. -/
def tableAllUptoCard : Claim7 := { stood := { row := tableAllUptoRow, standIns := [], harness := (true, "149fe8abe8b9039e3a60898f9423f0cdeb0551d1407a3880c40d04a13498610b"), looks := false }, kinds := [], alts := [], laidByText := true, laidKinds := [.data], laidTests := true, laidLooks := .later }
def TableAllUptoCardSaid : Prop := Claim7.holds Tryd.pinned (.plain (OpenSpec.upto tableAllSpec)) tableAllUptoCard

/-- THE SECOND FORM's CARD OF 'warplaw8.TableMade'. -/
def tableMadeUptoCard : Claim7 := { stood := { row := tableMadeUptoRow, standIns := [], harness := (true, "149fe8abe8b9039e3a60898f9423f0cdeb0551d1407a3880c40d04a13498610b"), looks := false }, kinds := [], alts := [], laidByText := true, laidKinds := [.data], laidTests := true, laidLooks := .later }
def TableMadeUptoCardSaid : Prop := Claim7.holds Tryd.pinned (.plain (OpenSpec.upto tableMadeSpec)) tableMadeUptoCard

/-- THE SECOND FORM's CARD OF 'warplaw8.TableOnce'. -/
def tableOnceUptoCard : Claim7 := { stood := { row := tableOnceUptoRow, standIns := [], harness := (true, "149fe8abe8b9039e3a60898f9423f0cdeb0551d1407a3880c40d04a13498610b"), looks := false }, kinds := [], alts := [], laidByText := true, laidKinds := [.data], laidTests := true, laidLooks := .later }
def TableOnceUptoCardSaid : Prop := Claim7.holds Tryd.pinned (.plain (OpenSpec.upto tableOnceSpec)) tableOnceUptoCard

/-- THE SECOND FORM's CARD OF 'warplaw8.TableAgain'. -/
def tableAgainUptoCard : Claim7 := { stood := { row := tableAgainUptoRow, standIns := [], harness := (true, "149fe8abe8b9039e3a60898f9423f0cdeb0551d1407a3880c40d04a13498610b"), looks := false }, kinds := [], alts := [], laidByText := true, laidKinds := [.data], laidTests := true, laidLooks := .later }
def TableAgainUptoCardSaid : Prop := Claim7.holds Tryd.pinned (.plain (OpenSpec.upto tableAgainSpec)) tableAgainUptoCard

/-- THE SECOND FORM's CARD OF 'warplaw8.TableOne'. -/
def tableOneUptoCard : Claim7 := { stood := { row := tableOneUptoRow, standIns := [], harness := (true, "149fe8abe8b9039e3a60898f9423f0cdeb0551d1407a3880c40d04a13498610b"), looks := false }, kinds := [], alts := [], laidByText := true, laidKinds := [.data], laidTests := true, laidLooks := .later }
def TableOneUptoCardSaid : Prop := Claim7.holds Tryd.pinned (.plain (OpenSpec.upto tableOneSpec)) tableOneUptoCard
end Rows
end Go.Proofs.YtmgfkdnoclmbgaaDoor
