/-
  DERIVED. GIVEN WITH THE SEED: THE CARDS: each row of YtmodblkagimhlaaDoorRows.lean that lists a variable, with what it lists TIED to the program's text (the seventh form; the later family's looks); each row that meets fmt, with fmt's text TOLD by the authors' own Lean function (tested against real Go, not proved from fmt's source: count such statements apart). THE CARD IS WHAT COUNTS. Prove the row's statement (the work); the ties are given (YtmodblkagimhlaaDoorTie.lean); close each card by the builder's one call (the guide's Derived/Test/ToyasCard.lean, 'card_holds'). Laid BY PROGRAM, IN A SANDBOX (cutbox-door.mjs). By AI agents, Wed Nov 11 2026. No macro, syntax, notation, axiom, sorry.
-/
import Derived.Test.YtmodblkagimhlaaDoorRows
import GoSem.ClaimSeven
namespace Go.Proofs.YtmodblkagimhlaaDoor
namespace Rows

/-- THE TIED CARD OF 'trellislaw.SplitText'. -/
def splitTextCard : Claim7 := { stood := { row := splitTextRow, standIns := [], harness := (true, "059439886bd9b10d6ef3637122ed2ff3961f2c78d442b24a8189c657a63b179b"), looks := true }, kinds := [], alts := [], laidByText := true, laidKinds := [.data, .data, .data, .sentinel, .sentinel], laidTests := true, laidLooks := .later }
def SplitTextCardSaid : Prop := Claim7.holds Tryd.pinned (.plain (OpenSpec.ofChange splitTextSpec)) splitTextCard

/-- THE TIED CARD OF 'trellislaw.HouseCheck'. -/
def houseCheckCard : Claim7 := { stood := { row := houseCheckRow, standIns := [], harness := (true, "059439886bd9b10d6ef3637122ed2ff3961f2c78d442b24a8189c657a63b179b"), looks := true }, kinds := [], alts := [], laidByText := true, laidKinds := [.data, .pinned], laidTests := true, laidLooks := .later }
def HouseCheckCardSaid : Prop := Claim7.holds Tryd.pinned (.plain (OpenSpec.ofChange houseCheckSpec)) houseCheckCard

/-- THE TIED CARD OF 'trellislaw.HouseSession'. -/
def houseSessionCard : Claim7 := { stood := { row := houseSessionRow, standIns := [], harness := (true, "059439886bd9b10d6ef3637122ed2ff3961f2c78d442b24a8189c657a63b179b"), looks := true }, kinds := [], alts := [], laidByText := true, laidKinds := [.data, .pinned], laidTests := true, laidLooks := .later }
def HouseSessionCardSaid : Prop := Claim7.holds Tryd.pinned (.plain (OpenSpec.ofChange houseSessionSpec)) houseSessionCard

/-- THE TIED CARD OF 'trellislaw.HouseClose'. -/
def houseCloseCard : Claim7 := { stood := { row := houseCloseRow, standIns := [], harness := (true, "059439886bd9b10d6ef3637122ed2ff3961f2c78d442b24a8189c657a63b179b"), looks := true }, kinds := [], alts := [], laidByText := true, laidKinds := [.data, .pinned], laidTests := true, laidLooks := .later }
def HouseCloseCardSaid : Prop := Claim7.holds Tryd.pinned (.plain (OpenSpec.ofChange houseCloseSpec)) houseCloseCard

/-- THE TIED CARD OF 'trellislaw.HouseLook'. -/
def houseLookCard : Claim7 := { stood := { row := houseLookRow, standIns := [], harness := (true, "059439886bd9b10d6ef3637122ed2ff3961f2c78d442b24a8189c657a63b179b"), looks := true }, kinds := [], alts := [], laidByText := true, laidKinds := [.data, .pinned], laidTests := true, laidLooks := .later }
def HouseLookCardSaid : Prop := Claim7.holds Tryd.pinned (.plain (OpenSpec.ofChange houseLookSpec)) houseLookCard

/-- THE TIED CARD OF 'trellislaw.HouseRight'. -/
def houseRightCard : Claim7 := { stood := { row := houseRightRow, standIns := [], harness := (true, "059439886bd9b10d6ef3637122ed2ff3961f2c78d442b24a8189c657a63b179b"), looks := true }, kinds := [], alts := [], laidByText := true, laidKinds := [.data, .pinned], laidTests := true, laidLooks := .later }
def HouseRightCardSaid : Prop := Claim7.holds Tryd.pinned (.plain (OpenSpec.ofChange houseRightSpec)) houseRightCard

/-- THE TIED CARD OF 'trellislaw.FormatExpand'. -/
def formatExpandCard : Claim7 := { stood := { row := formatExpandRow, standIns := [], harness := (true, "059439886bd9b10d6ef3637122ed2ff3961f2c78d442b24a8189c657a63b179b"), looks := true }, kinds := [], alts := [], laidByText := true, laidKinds := [.data, .data, .data, .data, .sentinel, .sentinel, .pinned], laidTests := true, laidLooks := .later }
def FormatExpandCardSaid : Prop := Claim7.holds Tryd.pinned (.plain (OpenSpec.ofChange formatExpandSpec)) formatExpandCard

/-- THE SECOND FORM's CARD OF 'trellislaw.SplitText'. -/
def splitTextUptoCard : Claim7 := { stood := { row := splitTextUptoRow, standIns := [], harness := (true, "059439886bd9b10d6ef3637122ed2ff3961f2c78d442b24a8189c657a63b179b"), looks := true }, kinds := [], alts := [], laidByText := true, laidKinds := [.data, .data, .data, .sentinel, .sentinel], laidTests := true, laidLooks := .later }
def SplitTextUptoCardSaid : Prop := Claim7.holds Tryd.pinned (.plain (OpenSpec.upto splitTextSpec)) splitTextUptoCard

/-- THE SECOND FORM's CARD OF 'trellislaw.HouseCheck'. -/
def houseCheckUptoCard : Claim7 := { stood := { row := houseCheckUptoRow, standIns := [], harness := (true, "059439886bd9b10d6ef3637122ed2ff3961f2c78d442b24a8189c657a63b179b"), looks := true }, kinds := [], alts := [], laidByText := true, laidKinds := [.data, .pinned], laidTests := true, laidLooks := .later }
def HouseCheckUptoCardSaid : Prop := Claim7.holds Tryd.pinned (.plain (OpenSpec.upto houseCheckSpec)) houseCheckUptoCard

/-- THE SECOND FORM's CARD OF 'trellislaw.HouseSession'. -/
def houseSessionUptoCard : Claim7 := { stood := { row := houseSessionUptoRow, standIns := [], harness := (true, "059439886bd9b10d6ef3637122ed2ff3961f2c78d442b24a8189c657a63b179b"), looks := true }, kinds := [], alts := [], laidByText := true, laidKinds := [.data, .pinned], laidTests := true, laidLooks := .later }
def HouseSessionUptoCardSaid : Prop := Claim7.holds Tryd.pinned (.plain (OpenSpec.upto houseSessionSpec)) houseSessionUptoCard

/-- THE SECOND FORM's CARD OF 'trellislaw.HouseClose'. -/
def houseCloseUptoCard : Claim7 := { stood := { row := houseCloseUptoRow, standIns := [], harness := (true, "059439886bd9b10d6ef3637122ed2ff3961f2c78d442b24a8189c657a63b179b"), looks := true }, kinds := [], alts := [], laidByText := true, laidKinds := [.data, .pinned], laidTests := true, laidLooks := .later }
def HouseCloseUptoCardSaid : Prop := Claim7.holds Tryd.pinned (.plain (OpenSpec.upto houseCloseSpec)) houseCloseUptoCard

/-- THE SECOND FORM's CARD OF 'trellislaw.HouseLook'. -/
def houseLookUptoCard : Claim7 := { stood := { row := houseLookUptoRow, standIns := [], harness := (true, "059439886bd9b10d6ef3637122ed2ff3961f2c78d442b24a8189c657a63b179b"), looks := true }, kinds := [], alts := [], laidByText := true, laidKinds := [.data, .pinned], laidTests := true, laidLooks := .later }
def HouseLookUptoCardSaid : Prop := Claim7.holds Tryd.pinned (.plain (OpenSpec.upto houseLookSpec)) houseLookUptoCard

/-- THE SECOND FORM's CARD OF 'trellislaw.HouseRight'. -/
def houseRightUptoCard : Claim7 := { stood := { row := houseRightUptoRow, standIns := [], harness := (true, "059439886bd9b10d6ef3637122ed2ff3961f2c78d442b24a8189c657a63b179b"), looks := true }, kinds := [], alts := [], laidByText := true, laidKinds := [.data, .pinned], laidTests := true, laidLooks := .later }
def HouseRightUptoCardSaid : Prop := Claim7.holds Tryd.pinned (.plain (OpenSpec.upto houseRightSpec)) houseRightUptoCard

/-- THE SECOND FORM's CARD OF 'trellislaw.FormatExpand'. -/
def formatExpandUptoCard : Claim7 := { stood := { row := formatExpandUptoRow, standIns := [], harness := (true, "059439886bd9b10d6ef3637122ed2ff3961f2c78d442b24a8189c657a63b179b"), looks := true }, kinds := [], alts := [], laidByText := true, laidKinds := [.data, .data, .data, .data, .sentinel, .sentinel, .pinned], laidTests := true, laidLooks := .later }
def FormatExpandUptoCardSaid : Prop := Claim7.holds Tryd.pinned (.plain (OpenSpec.upto formatExpandSpec)) formatExpandUptoCard
end Rows
end Go.Proofs.YtmodblkagimhlaaDoor
