/-
  DERIVED. GIVEN WITH THE SEED: THE CARDS: each row of YtmaiicpaalbcfaaDoorRows.lean that lists a variable, with what it lists TIED to the program's text (the seventh form; the later family's looks); each row that meets fmt, with fmt's text TOLD by the authors' own Lean function (tested against real Go, not proved from fmt's source: count such statements apart). THE CARD IS WHAT COUNTS. Prove the row's statement (the work); the ties are given (YtmaiicpaalbcfaaDoorTie.lean); close each card by the builder's one call (the guide's Derived/Test/ToyasCard.lean, 'card_holds'). Laid BY PROGRAM, IN A SANDBOX (cutbox-door.mjs). By AI agents, Wed Nov 11 2026. No macro, syntax, notation, axiom, sorry.
-/
import Derived.Test.YtmaiicpaalbcfaaDoorRows
import GoSem.ClaimSeven
namespace Go.Proofs.YtmaiicpaalbcfaaDoor
namespace Rows

/-- THE TIED CARD OF 'warplaw5.PlayAll'. -/
def playAllCard : Claim7 := { stood := { row := playAllRow, standIns := [], harness := (true, "db22ba49024280afbb1c2d1d58a860f8bfc1becf73fcdd89040ea39efaa14eca"), looks := false }, kinds := [], alts := [], laidByText := true, laidKinds := [.data], laidTests := true, laidLooks := .later }
def PlayAllCardSaid : Prop := Claim7.holds Tryd.pinned (.plain (OpenSpec.ofChange playAllSpec)) playAllCard

/-- THE TIED CARD OF 'warplaw5.PlayMade'. -/
def playMadeCard : Claim7 := { stood := { row := playMadeRow, standIns := [], harness := (true, "db22ba49024280afbb1c2d1d58a860f8bfc1becf73fcdd89040ea39efaa14eca"), looks := false }, kinds := [], alts := [], laidByText := true, laidKinds := [.data], laidTests := true, laidLooks := .later }
def PlayMadeCardSaid : Prop := Claim7.holds Tryd.pinned (.plain (OpenSpec.ofChange playMadeSpec)) playMadeCard

/-- THE TIED CARD OF 'warplaw5.PlayEnds'. -/
def playEndsCard : Claim7 := { stood := { row := playEndsRow, standIns := [], harness := (true, "db22ba49024280afbb1c2d1d58a860f8bfc1becf73fcdd89040ea39efaa14eca"), looks := false }, kinds := [], alts := [], laidByText := true, laidKinds := [.data], laidTests := true, laidLooks := .later }
def PlayEndsCardSaid : Prop := Claim7.holds Tryd.pinned (.plain (OpenSpec.ofChange playEndsSpec)) playEndsCard

/-- THE TIED CARD OF 'warplaw5.PlayLimits'. -/
def playLimitsCard : Claim7 := { stood := { row := playLimitsRow, standIns := [], harness := (true, "db22ba49024280afbb1c2d1d58a860f8bfc1becf73fcdd89040ea39efaa14eca"), looks := false }, kinds := [], alts := [], laidByText := true, laidKinds := [.data], laidTests := true, laidLooks := .later }
def PlayLimitsCardSaid : Prop := Claim7.holds Tryd.pinned (.plain (OpenSpec.ofChange playLimitsSpec)) playLimitsCard

/-- THE TIED CARD OF 'warplaw5.PlayOne'. -/
def playOneCard : Claim7 := { stood := { row := playOneRow, standIns := [], harness := (true, "db22ba49024280afbb1c2d1d58a860f8bfc1becf73fcdd89040ea39efaa14eca"), looks := false }, kinds := [], alts := [], laidByText := true, laidKinds := [.data], laidTests := true, laidLooks := .later }
def PlayOneCardSaid : Prop := Claim7.holds Tryd.pinned (.plain (OpenSpec.ofChange playOneSpec)) playOneCard

/-- THE TIED CARD OF 'warplaw5.PlayPicks'. -/
def playPicksCard : Claim7 := { stood := { row := playPicksRow, standIns := [], harness := (true, "db22ba49024280afbb1c2d1d58a860f8bfc1becf73fcdd89040ea39efaa14eca"), looks := false }, kinds := [], alts := [], laidByText := true, laidKinds := [.data], laidTests := true, laidLooks := .later }
def PlayPicksCardSaid : Prop := Claim7.holds Tryd.pinned (.plain (OpenSpec.ofChange playPicksSpec)) playPicksCard

/-- THE SECOND FORM's CARD OF 'warplaw5.PlayAll'. -/
def playAllUptoCard : Claim7 := { stood := { row := playAllUptoRow, standIns := [], harness := (true, "db22ba49024280afbb1c2d1d58a860f8bfc1becf73fcdd89040ea39efaa14eca"), looks := false }, kinds := [], alts := [], laidByText := true, laidKinds := [.data], laidTests := true, laidLooks := .later }
def PlayAllUptoCardSaid : Prop := Claim7.holds Tryd.pinned (.plain (OpenSpec.upto playAllSpec)) playAllUptoCard

/-- THE SECOND FORM's CARD OF 'warplaw5.PlayMade'. -/
def playMadeUptoCard : Claim7 := { stood := { row := playMadeUptoRow, standIns := [], harness := (true, "db22ba49024280afbb1c2d1d58a860f8bfc1becf73fcdd89040ea39efaa14eca"), looks := false }, kinds := [], alts := [], laidByText := true, laidKinds := [.data], laidTests := true, laidLooks := .later }
def PlayMadeUptoCardSaid : Prop := Claim7.holds Tryd.pinned (.plain (OpenSpec.upto playMadeSpec)) playMadeUptoCard

/-- THE SECOND FORM's CARD OF 'warplaw5.PlayEnds'. -/
def playEndsUptoCard : Claim7 := { stood := { row := playEndsUptoRow, standIns := [], harness := (true, "db22ba49024280afbb1c2d1d58a860f8bfc1becf73fcdd89040ea39efaa14eca"), looks := false }, kinds := [], alts := [], laidByText := true, laidKinds := [.data], laidTests := true, laidLooks := .later }
def PlayEndsUptoCardSaid : Prop := Claim7.holds Tryd.pinned (.plain (OpenSpec.upto playEndsSpec)) playEndsUptoCard

/-- THE SECOND FORM's CARD OF 'warplaw5.PlayLimits'. -/
def playLimitsUptoCard : Claim7 := { stood := { row := playLimitsUptoRow, standIns := [], harness := (true, "db22ba49024280afbb1c2d1d58a860f8bfc1becf73fcdd89040ea39efaa14eca"), looks := false }, kinds := [], alts := [], laidByText := true, laidKinds := [.data], laidTests := true, laidLooks := .later }
def PlayLimitsUptoCardSaid : Prop := Claim7.holds Tryd.pinned (.plain (OpenSpec.upto playLimitsSpec)) playLimitsUptoCard

/-- THE SECOND FORM's CARD OF 'warplaw5.PlayOne'. -/
def playOneUptoCard : Claim7 := { stood := { row := playOneUptoRow, standIns := [], harness := (true, "db22ba49024280afbb1c2d1d58a860f8bfc1becf73fcdd89040ea39efaa14eca"), looks := false }, kinds := [], alts := [], laidByText := true, laidKinds := [.data], laidTests := true, laidLooks := .later }
def PlayOneUptoCardSaid : Prop := Claim7.holds Tryd.pinned (.plain (OpenSpec.upto playOneSpec)) playOneUptoCard

/-- THE SECOND FORM's CARD OF 'warplaw5.PlayPicks'. -/
def playPicksUptoCard : Claim7 := { stood := { row := playPicksUptoRow, standIns := [], harness := (true, "db22ba49024280afbb1c2d1d58a860f8bfc1becf73fcdd89040ea39efaa14eca"), looks := false }, kinds := [], alts := [], laidByText := true, laidKinds := [.data], laidTests := true, laidLooks := .later }
def PlayPicksUptoCardSaid : Prop := Claim7.holds Tryd.pinned (.plain (OpenSpec.upto playPicksSpec)) playPicksUptoCard
end Rows
end Go.Proofs.YtmaiicpaalbcfaaDoor
