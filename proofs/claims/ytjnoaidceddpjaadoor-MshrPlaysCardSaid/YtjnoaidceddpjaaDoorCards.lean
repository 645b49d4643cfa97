/-
  DERIVED. GIVEN WITH THE SEED: THE CARDS: each row of YtjnoaidceddpjaaDoorRows.lean that lists a variable, with what it lists TIED to the program's text (the seventh form; the later family's looks); each row that meets fmt, with fmt's text TOLD by the authors' own Lean function (tested against real Go, not proved from fmt's source: count such statements apart). THE CARD IS WHAT COUNTS. Prove the row's statement (the work); the ties are given (YtjnoaidceddpjaaDoorTie.lean); close each card by the builder's one call (the guide's Derived/Test/ToyasCard.lean, 'card_holds'). Laid BY PROGRAM, IN A SANDBOX (cutbox-door.mjs). By AI agents, Wed Nov 11 2026. No macro, syntax, notation, axiom, sorry.
-/
import Derived.Test.YtjnoaidceddpjaaDoorRows
import GoSem.ClaimSeven
namespace Go.Proofs.YtjnoaidceddpjaaDoor
namespace Rows

/-- THE TIED CARD OF 'assentlaw6.ArrayRuns'. -/
def arrayRunsCard : Claim7 := { stood := { row := arrayRunsRow, standIns := [], harness := (true, "1f2d5d7082da53b06e0f1def1b4f14abb14585245d9f0ad43a4a17b9404cd0bc"), looks := true }, kinds := [], alts := [], laidByText := true, laidKinds := [.handle, .sentinel, .sentinel, .sentinel, .sentinel, .sentinel, .sentinel, .sentinel, .sentinel, .sentinel, .sentinel], laidTests := true, laidLooks := .later }
def ArrayRunsCardSaid : Prop := Claim7.holds Tryd.pinned (.plain (OpenSpec.ofChange arrayRunsSpec)) arrayRunsCard

/-- THE TIED CARD OF 'assentlaw6.ArrayPinned'. -/
def arrayPinnedCard : Claim7 := { stood := { row := arrayPinnedRow, standIns := [], harness := (true, "1f2d5d7082da53b06e0f1def1b4f14abb14585245d9f0ad43a4a17b9404cd0bc"), looks := true }, kinds := [], alts := [], laidByText := true, laidKinds := [.handle, .sentinel, .sentinel, .sentinel, .sentinel, .sentinel, .sentinel, .sentinel, .sentinel, .sentinel, .sentinel], laidTests := true, laidLooks := .later }
def ArrayPinnedCardSaid : Prop := Claim7.holds Tryd.pinned (.plain (OpenSpec.ofChange arrayPinnedSpec)) arrayPinnedCard

/-- THE TIED CARD OF 'assentlaw6.ArrayKeeps'. -/
def arrayKeepsCard : Claim7 := { stood := { row := arrayKeepsRow, standIns := [], harness := (true, "1f2d5d7082da53b06e0f1def1b4f14abb14585245d9f0ad43a4a17b9404cd0bc"), looks := true }, kinds := [], alts := [], laidByText := true, laidKinds := [.handle, .sentinel, .sentinel, .sentinel, .sentinel, .sentinel, .sentinel, .sentinel, .sentinel, .sentinel, .sentinel], laidTests := true, laidLooks := .later }
def ArrayKeepsCardSaid : Prop := Claim7.holds Tryd.pinned (.plain (OpenSpec.ofChange arrayKeepsSpec)) arrayKeepsCard

/-- THE TIED CARD OF 'assentlaw6.ArrayFull'. -/
def arrayFullCard : Claim7 := { stood := { row := arrayFullRow, standIns := [], harness := (true, "1f2d5d7082da53b06e0f1def1b4f14abb14585245d9f0ad43a4a17b9404cd0bc"), looks := true }, kinds := [], alts := [], laidByText := true, laidKinds := [.handle, .sentinel, .sentinel, .sentinel, .sentinel, .sentinel, .sentinel, .sentinel, .sentinel, .sentinel, .sentinel], laidTests := true, laidLooks := .later }
def ArrayFullCardSaid : Prop := Claim7.holds Tryd.pinned (.plain (OpenSpec.ofChange arrayFullSpec)) arrayFullCard

/-- THE TIED CARD OF 'assentlaw6.ArrayPlays'. -/
def arrayPlaysCard : Claim7 := { stood := { row := arrayPlaysRow, standIns := [], harness := (true, "1f2d5d7082da53b06e0f1def1b4f14abb14585245d9f0ad43a4a17b9404cd0bc"), looks := true }, kinds := [], alts := [], laidByText := true, laidKinds := [.handle, .sentinel, .sentinel, .sentinel, .sentinel, .sentinel, .sentinel, .sentinel, .sentinel, .sentinel, .sentinel], laidTests := true, laidLooks := .later }
def ArrayPlaysCardSaid : Prop := Claim7.holds Tryd.pinned (.plain (OpenSpec.ofChange arrayPlaysSpec)) arrayPlaysCard

/-- THE TIED CARD OF 'assentlaw6.ArrayHolds'. -/
def arrayHoldsCard : Claim7 := { stood := { row := arrayHoldsRow, standIns := [], harness := (true, "1f2d5d7082da53b06e0f1def1b4f14abb14585245d9f0ad43a4a17b9404cd0bc"), looks := true }, kinds := [], alts := [], laidByText := true, laidKinds := [.handle, .sentinel, .sentinel, .sentinel, .sentinel, .sentinel, .sentinel, .sentinel, .sentinel, .sentinel, .sentinel], laidTests := true, laidLooks := .later }
def ArrayHoldsCardSaid : Prop := Claim7.holds Tryd.pinned (.plain (OpenSpec.ofChange arrayHoldsSpec)) arrayHoldsCard

/-- THE TIED CARD OF 'assentlaw7.MshrRuns'. -/
def mshrRunsCard : Claim7 := { stood := { row := mshrRunsRow, standIns := [], harness := (true, "1f2d5d7082da53b06e0f1def1b4f14abb14585245d9f0ad43a4a17b9404cd0bc"), looks := true }, kinds := [], alts := [], laidByText := true, laidKinds := [.handle, .sentinel, .sentinel, .sentinel, .sentinel, .sentinel, .sentinel, .sentinel, .sentinel, .sentinel, .sentinel], laidTests := true, laidLooks := .later }
def MshrRunsCardSaid : Prop := Claim7.holds Tryd.pinned (.plain (OpenSpec.ofChange mshrRunsSpec)) mshrRunsCard

/-- THE TIED CARD OF 'assentlaw7.MshrPlays'. -/
def mshrPlaysCard : Claim7 := { stood := { row := mshrPlaysRow, standIns := [], harness := (true, "1f2d5d7082da53b06e0f1def1b4f14abb14585245d9f0ad43a4a17b9404cd0bc"), looks := true }, kinds := [], alts := [], laidByText := true, laidKinds := [.handle, .sentinel, .sentinel, .sentinel, .sentinel, .sentinel, .sentinel, .sentinel, .sentinel, .sentinel, .sentinel], laidTests := true, laidLooks := .later }
def MshrPlaysCardSaid : Prop := Claim7.holds Tryd.pinned (.plain (OpenSpec.ofChange mshrPlaysSpec)) mshrPlaysCard

/-- THE TIED CARD OF 'assentlaw7.MshrBound'. -/
def mshrBoundCard : Claim7 := { stood := { row := mshrBoundRow, standIns := [], harness := (true, "1f2d5d7082da53b06e0f1def1b4f14abb14585245d9f0ad43a4a17b9404cd0bc"), looks := true }, kinds := [], alts := [], laidByText := true, laidKinds := [.handle, .sentinel, .sentinel, .sentinel, .sentinel, .sentinel, .sentinel, .sentinel, .sentinel, .sentinel, .sentinel], laidTests := true, laidLooks := .later }
def MshrBoundCardSaid : Prop := Claim7.holds Tryd.pinned (.plain (OpenSpec.ofChange mshrBoundSpec)) mshrBoundCard

/-- THE TIED CARD OF 'assentlaw7.MshrKinds'. -/
def mshrKindsCard : Claim7 := { stood := { row := mshrKindsRow, standIns := [], harness := (true, "1f2d5d7082da53b06e0f1def1b4f14abb14585245d9f0ad43a4a17b9404cd0bc"), looks := true }, kinds := [], alts := [], laidByText := true, laidKinds := [.handle, .sentinel, .sentinel, .sentinel, .sentinel, .sentinel, .sentinel, .sentinel, .sentinel, .sentinel, .sentinel], laidTests := true, laidLooks := .later }
def MshrKindsCardSaid : Prop := Claim7.holds Tryd.pinned (.plain (OpenSpec.ofChange mshrKindsSpec)) mshrKindsCard

/-- THE TIED CARD OF 'assentlaw7.MshrFull'. -/
def mshrFullCard : Claim7 := { stood := { row := mshrFullRow, standIns := [], harness := (true, "1f2d5d7082da53b06e0f1def1b4f14abb14585245d9f0ad43a4a17b9404cd0bc"), looks := true }, kinds := [], alts := [], laidByText := true, laidKinds := [.handle, .sentinel, .sentinel, .sentinel, .sentinel, .sentinel, .sentinel, .sentinel, .sentinel, .sentinel, .sentinel], laidTests := true, laidLooks := .later }
def MshrFullCardSaid : Prop := Claim7.holds Tryd.pinned (.plain (OpenSpec.ofChange mshrFullSpec)) mshrFullCard

/-- THE SECOND FORM's CARD OF 'assentlaw6.ArrayRuns'. -/
def arrayRunsUptoCard : Claim7 := { stood := { row := arrayRunsUptoRow, standIns := [], harness := (true, "1f2d5d7082da53b06e0f1def1b4f14abb14585245d9f0ad43a4a17b9404cd0bc"), looks := true }, kinds := [], alts := [], laidByText := true, laidKinds := [.handle, .sentinel, .sentinel, .sentinel, .sentinel, .sentinel, .sentinel, .sentinel, .sentinel, .sentinel, .sentinel], laidTests := true, laidLooks := .later }
def ArrayRunsUptoCardSaid : Prop := Claim7.holds Tryd.pinned (.plain (OpenSpec.upto arrayRunsSpec)) arrayRunsUptoCard

/-- THE SECOND FORM's CARD OF 'assentlaw6.ArrayPinned'. -/
def arrayPinnedUptoCard : Claim7 := { stood := { row := arrayPinnedUptoRow, standIns := [], harness := (true, "1f2d5d7082da53b06e0f1def1b4f14abb14585245d9f0ad43a4a17b9404cd0bc"), looks := true }, kinds := [], alts := [], laidByText := true, laidKinds := [.handle, .sentinel, .sentinel, .sentinel, .sentinel, .sentinel, .sentinel, .sentinel, .sentinel, .sentinel, .sentinel], laidTests := true, laidLooks := .later }
def ArrayPinnedUptoCardSaid : Prop := Claim7.holds Tryd.pinned (.plain (OpenSpec.upto arrayPinnedSpec)) arrayPinnedUptoCard

/-- THE SECOND FORM's CARD OF 'assentlaw6.ArrayKeeps'. -/
def arrayKeepsUptoCard : Claim7 := { stood := { row := arrayKeepsUptoRow, standIns := [], harness := (true, "1f2d5d7082da53b06e0f1def1b4f14abb14585245d9f0ad43a4a17b9404cd0bc"), looks := true }, kinds := [], alts := [], laidByText := true, laidKinds := [.handle, .sentinel, .sentinel, .sentinel, .sentinel, .sentinel, .sentinel, .sentinel, .sentinel, .sentinel, .sentinel], laidTests := true, laidLooks := .later }
def ArrayKeepsUptoCardSaid : Prop := Claim7.holds Tryd.pinned (.plain (OpenSpec.upto arrayKeepsSpec)) arrayKeepsUptoCard

/-- THE SECOND FORM's CARD OF 'assentlaw6.ArrayFull'. -/
def arrayFullUptoCard : Claim7 := { stood := { row := arrayFullUptoRow, standIns := [], harness := (true, "1f2d5d7082da53b06e0f1def1b4f14abb14585245d9f0ad43a4a17b9404cd0bc"), looks := true }, kinds := [], alts := [], laidByText := true, laidKinds := [.handle, .sentinel, .sentinel, .sentinel, .sentinel, .sentinel, .sentinel, .sentinel, .sentinel, .sentinel, .sentinel], laidTests := true, laidLooks := .later }
def ArrayFullUptoCardSaid : Prop := Claim7.holds Tryd.pinned (.plain (OpenSpec.upto arrayFullSpec)) arrayFullUptoCard

/-- THE SECOND FORM's CARD OF 'assentlaw6.ArrayPlays'. -/
def arrayPlaysUptoCard : Claim7 := { stood := { row := arrayPlaysUptoRow, standIns := [], harness := (true, "1f2d5d7082da53b06e0f1def1b4f14abb14585245d9f0ad43a4a17b9404cd0bc"), looks := true }, kinds := [], alts := [], laidByText := true, laidKinds := [.handle, .sentinel, .sentinel, .sentinel, .sentinel, .sentinel, .sentinel, .sentinel, .sentinel, .sentinel, .sentinel], laidTests := true, laidLooks := .later }
def ArrayPlaysUptoCardSaid : Prop := Claim7.holds Tryd.pinned (.plain (OpenSpec.upto arrayPlaysSpec)) arrayPlaysUptoCard

/-- THE SECOND FORM's CARD OF 'assentlaw6.ArrayHolds'. -/
def arrayHoldsUptoCard : Claim7 := { stood := { row := arrayHoldsUptoRow, standIns := [], harness := (true, "1f2d5d7082da53b06e0f1def1b4f14abb14585245d9f0ad43a4a17b9404cd0bc"), looks := true }, kinds := [], alts := [], laidByText := true, laidKinds := [.handle, .sentinel, .sentinel, .sentinel, .sentinel, .sentinel, .sentinel, .sentinel, .sentinel, .sentinel, .sentinel], laidTests := true, laidLooks := .later }
def ArrayHoldsUptoCardSaid : Prop := Claim7.holds Tryd.pinned (.plain (OpenSpec.upto arrayHoldsSpec)) arrayHoldsUptoCard

/-- THE SECOND FORM's CARD OF 'assentlaw7.MshrRuns'. -/
def mshrRunsUptoCard : Claim7 := { stood := { row := mshrRunsUptoRow, standIns := [], harness := (true, "1f2d5d7082da53b06e0f1def1b4f14abb14585245d9f0ad43a4a17b9404cd0bc"), looks := true }, kinds := [], alts := [], laidByText := true, laidKinds := [.handle, .sentinel, .sentinel, .sentinel, .sentinel, .sentinel, .sentinel, .sentinel, .sentinel, .sentinel, .sentinel], laidTests := true, laidLooks := .later }
def MshrRunsUptoCardSaid : Prop := Claim7.holds Tryd.pinned (.plain (OpenSpec.upto mshrRunsSpec)) mshrRunsUptoCard

/-- THE SECOND FORM's CARD OF 'assentlaw7.MshrPlays'. -/
def mshrPlaysUptoCard : Claim7 := { stood := { row := mshrPlaysUptoRow, standIns := [], harness := (true, "1f2d5d7082da53b06e0f1def1b4f14abb14585245d9f0ad43a4a17b9404cd0bc"), looks := true }, kinds := [], alts := [], laidByText := true, laidKinds := [.handle, .sentinel, .sentinel, .sentinel, .sentinel, .sentinel, .sentinel, .sentinel, .sentinel, .sentinel, .sentinel], laidTests := true, laidLooks := .later }
def MshrPlaysUptoCardSaid : Prop := Claim7.holds Tryd.pinned (.plain (OpenSpec.upto mshrPlaysSpec)) mshrPlaysUptoCard

/-- THE SECOND FORM's CARD OF 'assentlaw7.MshrBound'. -/
def mshrBoundUptoCard : Claim7 := { stood := { row := mshrBoundUptoRow, standIns := [], harness := (true, "1f2d5d7082da53b06e0f1def1b4f14abb14585245d9f0ad43a4a17b9404cd0bc"), looks := true }, kinds := [], alts := [], laidByText := true, laidKinds := [.handle, .sentinel, .sentinel, .sentinel, .sentinel, .sentinel, .sentinel, .sentinel, .sentinel, .sentinel, .sentinel], laidTests := true, laidLooks := .later }
def MshrBoundUptoCardSaid : Prop := Claim7.holds Tryd.pinned (.plain (OpenSpec.upto mshrBoundSpec)) mshrBoundUptoCard

/-- THE SECOND FORM's CARD OF 'assentlaw7.MshrKinds'. -/
def mshrKindsUptoCard : Claim7 := { stood := { row := mshrKindsUptoRow, standIns := [], harness := (true, "1f2d5d7082da53b06e0f1def1b4f14abb14585245d9f0ad43a4a17b9404cd0bc"), looks := true }, kinds := [], alts := [], laidByText := true, laidKinds := [.handle, .sentinel, .sentinel, .sentinel, .sentinel, .sentinel, .sentinel, .sentinel, .sentinel, .sentinel, .sentinel], laidTests := true, laidLooks := .later }
def MshrKindsUptoCardSaid : Prop := Claim7.holds Tryd.pinned (.plain (OpenSpec.upto mshrKindsSpec)) mshrKindsUptoCard

/-- THE SECOND FORM's CARD OF 'assentlaw7.MshrFull'. -/
def mshrFullUptoCard : Claim7 := { stood := { row := mshrFullUptoRow, standIns := [], harness := (true, "1f2d5d7082da53b06e0f1def1b4f14abb14585245d9f0ad43a4a17b9404cd0bc"), looks := true }, kinds := [], alts := [], laidByText := true, laidKinds := [.handle, .sentinel, .sentinel, .sentinel, .sentinel, .sentinel, .sentinel, .sentinel, .sentinel, .sentinel, .sentinel], laidTests := true, laidLooks := .later }
def MshrFullUptoCardSaid : Prop := Claim7.holds Tryd.pinned (.plain (OpenSpec.upto mshrFullSpec)) mshrFullUptoCard
end Rows
end Go.Proofs.YtjnoaidceddpjaaDoor
