/-
  DERIVED. GIVEN WITH THE SEED: THE CARDS: each row of YtmodblkagimhlaaGreatDoorRows.lean that lists a variable, with what it lists TIED to the program's text (the seventh form; the later family's looks); each row that meets fmt, with fmt's text TOLD by the authors' own Lean function (tested against real Go, not proved from fmt's source: count such statements apart). THE CARD IS WHAT COUNTS. Prove the row's statement (the work); the ties are given (YtmodblkagimhlaaGreatDoorTie.lean); close each card by the builder's one call (the guide's Derived/Test/ToyasCard.lean, 'card_holds'). Laid BY PROGRAM, IN A SANDBOX (cutbox-door.mjs). By AI agents, Wed Nov 11 2026. No macro, syntax, notation, axiom, sorry.
-/
import Derived.Test.YtmodblkagimhlaaGreatDoorRows
import GoSem.ClaimSeven
namespace Go.Proofs.YtmodblkagimhlaaGreatDoor
namespace Rows

/-- THE TIED CARD OF 'trellislaw.HousePane'. -/
def housePaneCard : Claim7 := { stood := { row := housePaneRow, standIns := [], harness := (true, "c0b3664fa363e5009315a0343abdc739b47e37ef9fc32374f8e93862865dc6cb"), looks := false }, kinds := [], alts := [], laidByText := true, laidKinds := [.data, .pinned], laidTests := true, laidLooks := .later }
def HousePaneCardSaid : Prop := Claim7.holds Tryz.pinned (.plain (OpenSpec.ofChange housePaneSpec)) housePaneCard

/-- THE TIED CARD OF 'trellislaw.HouseWindow'. -/
def houseWindowCard : Claim7 := { stood := { row := houseWindowRow, standIns := [], harness := (true, "c0b3664fa363e5009315a0343abdc739b47e37ef9fc32374f8e93862865dc6cb"), looks := false }, kinds := [], alts := [], laidByText := true, laidKinds := [.data, .pinned], laidTests := true, laidLooks := .later }
def HouseWindowCardSaid : Prop := Claim7.holds Tryz.pinned (.plain (OpenSpec.ofChange houseWindowSpec)) houseWindowCard

/-- THE SECOND FORM's CARD OF 'trellislaw.HousePane'. -/
def housePaneUptoCard : Claim7 := { stood := { row := housePaneUptoRow, standIns := [], harness := (true, "c0b3664fa363e5009315a0343abdc739b47e37ef9fc32374f8e93862865dc6cb"), looks := false }, kinds := [], alts := [], laidByText := true, laidKinds := [.data, .pinned], laidTests := true, laidLooks := .later }
def HousePaneUptoCardSaid : Prop := Claim7.holds Tryz.pinned (.plain (OpenSpec.upto housePaneSpec)) housePaneUptoCard

/-- THE SECOND FORM's CARD OF 'trellislaw.HouseWindow'. -/
def houseWindowUptoCard : Claim7 := { stood := { row := houseWindowUptoRow, standIns := [], harness := (true, "c0b3664fa363e5009315a0343abdc739b47e37ef9fc32374f8e93862865dc6cb"), looks := false }, kinds := [], alts := [], laidByText := true, laidKinds := [.data, .pinned], laidTests := true, laidLooks := .later }
def HouseWindowUptoCardSaid : Prop := Claim7.holds Tryz.pinned (.plain (OpenSpec.upto houseWindowSpec)) houseWindowUptoCard
end Rows
end Go.Proofs.YtmodblkagimhlaaGreatDoor
