/-
  DERIVED. GIVEN WITH THE SEED: THE CARDS: each row of YtnbkjlebphmpnaaDoorRows.lean that lists a variable, with what it lists TIED to the program's text (the seventh form; the later family's looks); each row that meets fmt, with fmt's text TOLD by the authors' own Lean function (tested against real Go, not proved from fmt's source: count such statements apart). THE CARD IS WHAT COUNTS. Prove the row's statement (the work); the ties are given (YtnbkjlebphmpnaaDoorTie.lean); close each card by the builder's one call (the guide's Derived/Test/ToyasCard.lean, 'card_holds'). Laid BY PROGRAM, IN A SANDBOX (cutbox-door.mjs). By AI agents, Wed Nov 11 2026. No macro, syntax, notation, axiom, sorry.
-/
import Derived.Test.YtnbkjlebphmpnaaDoorRows
import GoSem.ClaimSeven
namespace Go.Proofs.YtnbkjlebphmpnaaDoor
namespace Rows

/-- THE TIED CARD OF 'caliperlaw14.TransBack'. -/
def transBackCard : Claim7 := { stood := { row := transBackRow, standIns := [], harness := (true, "e49832d3e4d0503b921f1a5c5e35a90549e357c6984b4908e1354aa9dd50859f"), looks := true }, kinds := [], alts := [], laidByText := true, laidKinds := [.data, .data], laidTests := true, laidLooks := .later }
def TransBackCardSaid : Prop := Claim7.holds Tryd.pinned (.plain (OpenSpec.ofChange transBackSpec)) transBackCard

/-- THE TIED CARD OF 'caliperlaw14.TransRounds'. -/
def transRoundsCard : Claim7 := { stood := { row := transRoundsRow, standIns := [], harness := (true, "e49832d3e4d0503b921f1a5c5e35a90549e357c6984b4908e1354aa9dd50859f"), looks := true }, kinds := [], alts := [], laidByText := true, laidKinds := [.data, .data], laidTests := true, laidLooks := .later }
def TransRoundsCardSaid : Prop := Claim7.holds Tryd.pinned (.plain (OpenSpec.ofChange transRoundsSpec)) transRoundsCard

/-- THE TIED CARD OF 'caliperlaw14.TransWide'. -/
def transWideCard : Claim7 := { stood := { row := transWideRow, standIns := [], harness := (true, "e49832d3e4d0503b921f1a5c5e35a90549e357c6984b4908e1354aa9dd50859f"), looks := true }, kinds := [], alts := [], laidByText := true, laidKinds := [.data, .data], laidTests := true, laidLooks := .later }
def TransWideCardSaid : Prop := Claim7.holds Tryd.pinned (.plain (OpenSpec.ofChange transWideSpec)) transWideCard

/-- THE TIED CARD OF 'caliperlaw14.TransSigns'. -/
def transSignsCard : Claim7 := { stood := { row := transSignsRow, standIns := [], harness := (true, "e49832d3e4d0503b921f1a5c5e35a90549e357c6984b4908e1354aa9dd50859f"), looks := true }, kinds := [], alts := [], laidByText := true, laidKinds := [.data, .data], laidTests := true, laidLooks := .later }
def TransSignsCardSaid : Prop := Claim7.holds Tryd.pinned (.plain (OpenSpec.ofChange transSignsSpec)) transSignsCard

/-- THE TIED CARD OF 'caliperlaw14.TransOnce'. -/
def transOnceCard : Claim7 := { stood := { row := transOnceRow, standIns := [], harness := (true, "e49832d3e4d0503b921f1a5c5e35a90549e357c6984b4908e1354aa9dd50859f"), looks := true }, kinds := [], alts := [], laidByText := true, laidKinds := [.data, .data], laidTests := true, laidLooks := .later }
def TransOnceCardSaid : Prop := Claim7.holds Tryd.pinned (.plain (OpenSpec.ofChange transOnceSpec)) transOnceCard

/-- THE TIED CARD OF 'caliperlaw14.TransRises'. -/
def transRisesCard : Claim7 := { stood := { row := transRisesRow, standIns := [], harness := (true, "e49832d3e4d0503b921f1a5c5e35a90549e357c6984b4908e1354aa9dd50859f"), looks := true }, kinds := [], alts := [], laidByText := true, laidKinds := [.data, .data], laidTests := true, laidLooks := .later }
def TransRisesCardSaid : Prop := Claim7.holds Tryd.pinned (.plain (OpenSpec.ofChange transRisesSpec)) transRisesCard

/-- THE TIED CARD OF 'caliperlaw14.TransSame'. -/
def transSameCard : Claim7 := { stood := { row := transSameRow, standIns := [], harness := (true, "e49832d3e4d0503b921f1a5c5e35a90549e357c6984b4908e1354aa9dd50859f"), looks := true }, kinds := [], alts := [], laidByText := true, laidKinds := [.data, .data], laidTests := true, laidLooks := .later }
def TransSameCardSaid : Prop := Claim7.holds Tryd.pinned (.plain (OpenSpec.ofChange transSameSpec)) transSameCard

/-- THE SECOND FORM's CARD OF 'caliperlaw14.TransBack'. -/
def transBackUptoCard : Claim7 := { stood := { row := transBackUptoRow, standIns := [], harness := (true, "e49832d3e4d0503b921f1a5c5e35a90549e357c6984b4908e1354aa9dd50859f"), looks := true }, kinds := [], alts := [], laidByText := true, laidKinds := [.data, .data], laidTests := true, laidLooks := .later }
def TransBackUptoCardSaid : Prop := Claim7.holds Tryd.pinned (.plain (OpenSpec.upto transBackSpec)) transBackUptoCard

/-- THE SECOND FORM's CARD OF 'caliperlaw14.TransRounds'. -/
def transRoundsUptoCard : Claim7 := { stood := { row := transRoundsUptoRow, standIns := [], harness := (true, "e49832d3e4d0503b921f1a5c5e35a90549e357c6984b4908e1354aa9dd50859f"), looks := true }, kinds := [], alts := [], laidByText := true, laidKinds := [.data, .data], laidTests := true, laidLooks := .later }
def TransRoundsUptoCardSaid : Prop := Claim7.holds Tryd.pinned (.plain (OpenSpec.upto transRoundsSpec)) transRoundsUptoCard

/-- THE SECOND FORM's CARD OF 'caliperlaw14.TransWide'. -/
def transWideUptoCard : Claim7 := { stood := { row := transWideUptoRow, standIns := [], harness := (true, "e49832d3e4d0503b921f1a5c5e35a90549e357c6984b4908e1354aa9dd50859f"), looks := true }, kinds := [], alts := [], laidByText := true, laidKinds := [.data, .data], laidTests := true, laidLooks := .later }
def TransWideUptoCardSaid : Prop := Claim7.holds Tryd.pinned (.plain (OpenSpec.upto transWideSpec)) transWideUptoCard

/-- THE SECOND FORM's CARD OF 'caliperlaw14.TransSigns'. -/
def transSignsUptoCard : Claim7 := { stood := { row := transSignsUptoRow, standIns := [], harness := (true, "e49832d3e4d0503b921f1a5c5e35a90549e357c6984b4908e1354aa9dd50859f"), looks := true }, kinds := [], alts := [], laidByText := true, laidKinds := [.data, .data], laidTests := true, laidLooks := .later }
def TransSignsUptoCardSaid : Prop := Claim7.holds Tryd.pinned (.plain (OpenSpec.upto transSignsSpec)) transSignsUptoCard

/-- THE SECOND FORM's CARD OF 'caliperlaw14.TransOnce'. -/
def transOnceUptoCard : Claim7 := { stood := { row := transOnceUptoRow, standIns := [], harness := (true, "e49832d3e4d0503b921f1a5c5e35a90549e357c6984b4908e1354aa9dd50859f"), looks := true }, kinds := [], alts := [], laidByText := true, laidKinds := [.data, .data], laidTests := true, laidLooks := .later }
def TransOnceUptoCardSaid : Prop := Claim7.holds Tryd.pinned (.plain (OpenSpec.upto transOnceSpec)) transOnceUptoCard

/-- THE SECOND FORM's CARD OF 'caliperlaw14.TransRises'. -/
def transRisesUptoCard : Claim7 := { stood := { row := transRisesUptoRow, standIns := [], harness := (true, "e49832d3e4d0503b921f1a5c5e35a90549e357c6984b4908e1354aa9dd50859f"), looks := true }, kinds := [], alts := [], laidByText := true, laidKinds := [.data, .data], laidTests := true, laidLooks := .later }
def TransRisesUptoCardSaid : Prop := Claim7.holds Tryd.pinned (.plain (OpenSpec.upto transRisesSpec)) transRisesUptoCard

/-- THE SECOND FORM's CARD OF 'caliperlaw14.TransSame'. -/
def transSameUptoCard : Claim7 := { stood := { row := transSameUptoRow, standIns := [], harness := (true, "e49832d3e4d0503b921f1a5c5e35a90549e357c6984b4908e1354aa9dd50859f"), looks := true }, kinds := [], alts := [], laidByText := true, laidKinds := [.data, .data], laidTests := true, laidLooks := .later }
def TransSameUptoCardSaid : Prop := Claim7.holds Tryd.pinned (.plain (OpenSpec.upto transSameSpec)) transSameUptoCard
end Rows
end Go.Proofs.YtnbkjlebphmpnaaDoor
