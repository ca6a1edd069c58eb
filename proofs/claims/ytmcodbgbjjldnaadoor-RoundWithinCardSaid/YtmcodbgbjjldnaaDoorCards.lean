/-
  DERIVED. GIVEN WITH THE SEED: THE CARDS: each row of YtmcodbgbjjldnaaDoorRows.lean that lists a variable, with what it lists TIED to the program's text (the seventh form; the later family's looks); each row that meets fmt, with fmt's text TOLD by the authors' own Lean function (tested against real Go, not proved from fmt's source: count such statements apart). THE CARD IS WHAT COUNTS. Prove the row's statement (the work); the ties are given (YtmcodbgbjjldnaaDoorTie.lean); close each card by the builder's one call (the guide's Derived/Test/ToyasCard.lean, 'card_holds'). Laid BY PROGRAM, IN A SANDBOX (cutbox-door.mjs). By AI agents, Wed Nov 11 2026. No macro, syntax, notation, axiom, sorry.
-/
import Derived.Test.YtmcodbgbjjldnaaDoorRows
import GoSem.ClaimSeven
namespace Go.Proofs.YtmcodbgbjjldnaaDoor
namespace Rows

/-- THE TIED CARD OF 'caliperlaw08.RoundTells'. -/
def roundTellsCard : Claim7 := { stood := { row := roundTellsRow, standIns := [], harness := (true, "c4ac28017d89e35ff44120f12d715216ed30f52e5a624160039d908668c31112"), looks := true }, kinds := [], alts := [], laidByText := true, laidKinds := [.data, .data], laidTests := true, laidLooks := .later }
def RoundTellsCardSaid : Prop := Claim7.holds Tryd.pinned (.plain (OpenSpec.ofChange roundTellsSpec)) roundTellsCard

/-- THE TIED CARD OF 'caliperlaw08.RoundRises'. -/
def roundRisesCard : Claim7 := { stood := { row := roundRisesRow, standIns := [], harness := (true, "c4ac28017d89e35ff44120f12d715216ed30f52e5a624160039d908668c31112"), looks := true }, kinds := [], alts := [], laidByText := true, laidKinds := [.data, .data], laidTests := true, laidLooks := .later }
def RoundRisesCardSaid : Prop := Claim7.holds Tryd.pinned (.plain (OpenSpec.ofChange roundRisesSpec)) roundRisesCard

/-- THE TIED CARD OF 'caliperlaw08.RoundTies'. -/
def roundTiesCard : Claim7 := { stood := { row := roundTiesRow, standIns := [], harness := (true, "c4ac28017d89e35ff44120f12d715216ed30f52e5a624160039d908668c31112"), looks := true }, kinds := [], alts := [], laidByText := true, laidKinds := [.data, .data], laidTests := true, laidLooks := .later }
def RoundTiesCardSaid : Prop := Claim7.holds Tryd.pinned (.plain (OpenSpec.ofChange roundTiesSpec)) roundTiesCard

/-- THE TIED CARD OF 'caliperlaw08.RoundSigns'. -/
def roundSignsCard : Claim7 := { stood := { row := roundSignsRow, standIns := [], harness := (true, "c4ac28017d89e35ff44120f12d715216ed30f52e5a624160039d908668c31112"), looks := true }, kinds := [], alts := [], laidByText := true, laidKinds := [.data, .data], laidTests := true, laidLooks := .later }
def RoundSignsCardSaid : Prop := Claim7.holds Tryd.pinned (.plain (OpenSpec.ofChange roundSignsSpec)) roundSignsCard

/-- THE TIED CARD OF 'caliperlaw08.RoundHas'. -/
def roundHasCard : Claim7 := { stood := { row := roundHasRow, standIns := [], harness := (true, "c4ac28017d89e35ff44120f12d715216ed30f52e5a624160039d908668c31112"), looks := true }, kinds := [], alts := [], laidByText := true, laidKinds := [.data, .data], laidTests := true, laidLooks := .later }
def RoundHasCardSaid : Prop := Claim7.holds Tryd.pinned (.plain (OpenSpec.ofChange roundHasSpec)) roundHasCard

/-- THE TIED CARD OF 'caliperlaw08.RoundFinite'. -/
def roundFiniteCard : Claim7 := { stood := { row := roundFiniteRow, standIns := [], harness := (true, "c4ac28017d89e35ff44120f12d715216ed30f52e5a624160039d908668c31112"), looks := true }, kinds := [], alts := [], laidByText := true, laidKinds := [.data, .data], laidTests := true, laidLooks := .later }
def RoundFiniteCardSaid : Prop := Claim7.holds Tryd.pinned (.plain (OpenSpec.ofChange roundFiniteSpec)) roundFiniteCard

/-- THE TIED CARD OF 'caliperlaw08.RoundLimits'. -/
def roundLimitsCard : Claim7 := { stood := { row := roundLimitsRow, standIns := [], harness := (true, "c4ac28017d89e35ff44120f12d715216ed30f52e5a624160039d908668c31112"), looks := true }, kinds := [], alts := [], laidByText := true, laidKinds := [.data, .data], laidTests := true, laidLooks := .later }
def RoundLimitsCardSaid : Prop := Claim7.holds Tryd.pinned (.plain (OpenSpec.ofChange roundLimitsSpec)) roundLimitsCard

/-- THE TIED CARD OF 'caliperlaw08.RoundWithin'. -/
def roundWithinCard : Claim7 := { stood := { row := roundWithinRow, standIns := [], harness := (true, "c4ac28017d89e35ff44120f12d715216ed30f52e5a624160039d908668c31112"), looks := true }, kinds := [], alts := [], laidByText := true, laidKinds := [.data, .data], laidTests := true, laidLooks := .later }
def RoundWithinCardSaid : Prop := Claim7.holds Tryd.pinned (.plain (OpenSpec.ofChange roundWithinSpec)) roundWithinCard

/-- THE SECOND FORM's CARD OF 'caliperlaw08.RoundTells'. -/
def roundTellsUptoCard : Claim7 := { stood := { row := roundTellsUptoRow, standIns := [], harness := (true, "c4ac28017d89e35ff44120f12d715216ed30f52e5a624160039d908668c31112"), looks := true }, kinds := [], alts := [], laidByText := true, laidKinds := [.data, .data], laidTests := true, laidLooks := .later }
def RoundTellsUptoCardSaid : Prop := Claim7.holds Tryd.pinned (.plain (OpenSpec.upto roundTellsSpec)) roundTellsUptoCard

/-- THE SECOND FORM's CARD OF 'caliperlaw08.RoundRises'. -/
def roundRisesUptoCard : Claim7 := { stood := { row := roundRisesUptoRow, standIns := [], harness := (true, "c4ac28017d89e35ff44120f12d715216ed30f52e5a624160039d908668c31112"), looks := true }, kinds := [], alts := [], laidByText := true, laidKinds := [.data, .data], laidTests := true, laidLooks := .later }
def RoundRisesUptoCardSaid : Prop := Claim7.holds Tryd.pinned (.plain (OpenSpec.upto roundRisesSpec)) roundRisesUptoCard

/-- THE SECOND FORM's CARD OF 'caliperlaw08.RoundTies'. -/
def roundTiesUptoCard : Claim7 := { stood := { row := roundTiesUptoRow, standIns := [], harness := (true, "c4ac28017d89e35ff44120f12d715216ed30f52e5a624160039d908668c31112"), looks := true }, kinds := [], alts := [], laidByText := true, laidKinds := [.data, .data], laidTests := true, laidLooks := .later }
def RoundTiesUptoCardSaid : Prop := Claim7.holds Tryd.pinned (.plain (OpenSpec.upto roundTiesSpec)) roundTiesUptoCard

/-- THE SECOND FORM's CARD OF 'caliperlaw08.RoundSigns'. -/
def roundSignsUptoCard : Claim7 := { stood := { row := roundSignsUptoRow, standIns := [], harness := (true, "c4ac28017d89e35ff44120f12d715216ed30f52e5a624160039d908668c31112"), looks := true }, kinds := [], alts := [], laidByText := true, laidKinds := [.data, .data], laidTests := true, laidLooks := .later }
def RoundSignsUptoCardSaid : Prop := Claim7.holds Tryd.pinned (.plain (OpenSpec.upto roundSignsSpec)) roundSignsUptoCard

/-- THE SECOND FORM's CARD OF 'caliperlaw08.RoundHas'. -/
def roundHasUptoCard : Claim7 := { stood := { row := roundHasUptoRow, standIns := [], harness := (true, "c4ac28017d89e35ff44120f12d715216ed30f52e5a624160039d908668c31112"), looks := true }, kinds := [], alts := [], laidByText := true, laidKinds := [.data, .data], laidTests := true, laidLooks := .later }
def RoundHasUptoCardSaid : Prop := Claim7.holds Tryd.pinned (.plain (OpenSpec.upto roundHasSpec)) roundHasUptoCard

/-- THE SECOND FORM's CARD OF 'caliperlaw08.RoundFinite'. -/
def roundFiniteUptoCard : Claim7 := { stood := { row := roundFiniteUptoRow, standIns := [], harness := (true, "c4ac28017d89e35ff44120f12d715216ed30f52e5a624160039d908668c31112"), looks := true }, kinds := [], alts := [], laidByText := true, laidKinds := [.data, .data], laidTests := true, laidLooks := .later }
def RoundFiniteUptoCardSaid : Prop := Claim7.holds Tryd.pinned (.plain (OpenSpec.upto roundFiniteSpec)) roundFiniteUptoCard

/-- THE SECOND FORM's CARD OF 'caliperlaw08.RoundLimits'. -/
def roundLimitsUptoCard : Claim7 := { stood := { row := roundLimitsUptoRow, standIns := [], harness := (true, "c4ac28017d89e35ff44120f12d715216ed30f52e5a624160039d908668c31112"), looks := true }, kinds := [], alts := [], laidByText := true, laidKinds := [.data, .data], laidTests := true, laidLooks := .later }
def RoundLimitsUptoCardSaid : Prop := Claim7.holds Tryd.pinned (.plain (OpenSpec.upto roundLimitsSpec)) roundLimitsUptoCard

/-- THE SECOND FORM's CARD OF 'caliperlaw08.RoundWithin'. -/
def roundWithinUptoCard : Claim7 := { stood := { row := roundWithinUptoRow, standIns := [], harness := (true, "c4ac28017d89e35ff44120f12d715216ed30f52e5a624160039d908668c31112"), looks := true }, kinds := [], alts := [], laidByText := true, laidKinds := [.data, .data], laidTests := true, laidLooks := .later }
def RoundWithinUptoCardSaid : Prop := Claim7.holds Tryd.pinned (.plain (OpenSpec.upto roundWithinSpec)) roundWithinUptoCard
end Rows
end Go.Proofs.YtmcodbgbjjldnaaDoor
