/-
  DERIVED. GIVEN WITH THE SEED: THE CARDS: each row of YtfaihaknibmcpaaGreatDoorRows.lean that lists a variable, with what it lists TIED to the program's text (the seventh form; the later family's looks); each row that meets fmt, with fmt's text TOLD by the authors' own Lean function (tested against real Go, not proved from fmt's source: count such statements apart). THE CARD IS WHAT COUNTS. Prove the row's statement (the work); the ties are given (YtfaihaknibmcpaaGreatDoorTie.lean); close each card by the builder's one call (the guide's Derived/Test/ToyasCard.lean, 'card_holds'). Laid BY PROGRAM, IN A SANDBOX (cutbox-door.mjs). By AI agents, Wed Nov 11 2026. No macro, syntax, notation, axiom, sorry.
-/
import Derived.Test.YtfaihaknibmcpaaGreatDoorRows
import GoSem.ClaimSeven
namespace Go.Proofs.YtfaihaknibmcpaaGreatDoor
namespace Rows

/-- THE TIED CARD OF 'assentlaw14.CacheFull'. -/
def cacheFullCard : Claim7 := { stood := { row := cacheFullRow, standIns := [], harness := (true, "adfb8931d7f5ffe053594f98c23235e2300657f464eb78fdacdcb433702c79f6"), looks := true }, kinds := [], alts := [], laidByText := true, laidKinds := [.handle, .sentinel, .sentinel, .sentinel, .sentinel, .sentinel, .sentinel, .sentinel, .sentinel, .sentinel, .sentinel], laidTests := true, laidLooks := .later }
def CacheFullCardSaid : Prop := Claim7.holds Tryz.pinned (.plain (OpenSpec.ofChange cacheFullSpec)) cacheFullCard

/-- THE TIED CARD OF 'assentlaw14.CachePlays'. -/
def cachePlaysCard : Claim7 := { stood := { row := cachePlaysRow, standIns := [], harness := (true, "adfb8931d7f5ffe053594f98c23235e2300657f464eb78fdacdcb433702c79f6"), looks := true }, kinds := [], alts := [], laidByText := true, laidKinds := [.handle, .sentinel, .sentinel, .sentinel, .sentinel, .sentinel, .sentinel, .sentinel, .sentinel, .sentinel, .sentinel], laidTests := true, laidLooks := .later }
def CachePlaysCardSaid : Prop := Claim7.holds Tryz.pinned (.plain (OpenSpec.ofChange cachePlaysSpec)) cachePlaysCard

/-- THE TIED CARD OF 'assentlaw14.CacheRoom'. -/
def cacheRoomCard : Claim7 := { stood := { row := cacheRoomRow, standIns := [], harness := (true, "adfb8931d7f5ffe053594f98c23235e2300657f464eb78fdacdcb433702c79f6"), looks := true }, kinds := [], alts := [], laidByText := true, laidKinds := [.handle, .sentinel, .sentinel, .sentinel, .sentinel, .sentinel, .sentinel, .sentinel, .sentinel, .sentinel, .sentinel], laidTests := true, laidLooks := .later }
def CacheRoomCardSaid : Prop := Claim7.holds Tryz.pinned (.plain (OpenSpec.ofChange cacheRoomSpec)) cacheRoomCard

/-- THE TIED CARD OF 'assentlaw14.CacheWrites'. -/
def cacheWritesCard : Claim7 := { stood := { row := cacheWritesRow, standIns := [], harness := (true, "adfb8931d7f5ffe053594f98c23235e2300657f464eb78fdacdcb433702c79f6"), looks := true }, kinds := [], alts := [], laidByText := true, laidKinds := [.handle, .sentinel, .sentinel, .sentinel, .sentinel, .sentinel, .sentinel, .sentinel, .sentinel, .sentinel, .sentinel], laidTests := true, laidLooks := .later }
def CacheWritesCardSaid : Prop := Claim7.holds Tryz.pinned (.plain (OpenSpec.ofChange cacheWritesSpec)) cacheWritesCard

/-- THE TIED CARD OF 'assentlaw14.CacheTurns'. -/
def cacheTurnsCard : Claim7 := { stood := { row := cacheTurnsRow, standIns := [], harness := (true, "adfb8931d7f5ffe053594f98c23235e2300657f464eb78fdacdcb433702c79f6"), looks := true }, kinds := [], alts := [], laidByText := true, laidKinds := [.handle, .sentinel, .sentinel, .sentinel, .sentinel, .sentinel, .sentinel, .sentinel, .sentinel, .sentinel, .sentinel], laidTests := true, laidLooks := .later }
def CacheTurnsCardSaid : Prop := Claim7.holds Tryz.pinned (.plain (OpenSpec.ofChange cacheTurnsSpec)) cacheTurnsCard

/-- THE TIED CARD OF 'assentlaw14.CacheLost'. -/
def cacheLostCard : Claim7 := { stood := { row := cacheLostRow, standIns := [], harness := (true, "adfb8931d7f5ffe053594f98c23235e2300657f464eb78fdacdcb433702c79f6"), looks := true }, kinds := [], alts := [], laidByText := true, laidKinds := [.handle, .sentinel, .sentinel, .sentinel, .sentinel, .sentinel, .sentinel, .sentinel, .sentinel, .sentinel, .sentinel], laidTests := true, laidLooks := .later }
def CacheLostCardSaid : Prop := Claim7.holds Tryz.pinned (.plain (OpenSpec.ofChange cacheLostSpec)) cacheLostCard

/-- THE TIED CARD OF 'assentlaw14.CacheNew'. -/
def cacheNewCard : Claim7 := { stood := { row := cacheNewRow, standIns := [], harness := (true, "adfb8931d7f5ffe053594f98c23235e2300657f464eb78fdacdcb433702c79f6"), looks := true }, kinds := [], alts := [], laidByText := true, laidKinds := [.handle, .sentinel, .sentinel, .sentinel, .sentinel, .sentinel, .sentinel, .sentinel, .sentinel, .sentinel, .sentinel], laidTests := true, laidLooks := .later }
def CacheNewCardSaid : Prop := Claim7.holds Tryz.pinned (.plain (OpenSpec.ofChange cacheNewSpec)) cacheNewCard

/-- THE SECOND FORM's CARD OF 'assentlaw14.CacheFull'. -/
def cacheFullUptoCard : Claim7 := { stood := { row := cacheFullUptoRow, standIns := [], harness := (true, "adfb8931d7f5ffe053594f98c23235e2300657f464eb78fdacdcb433702c79f6"), looks := true }, kinds := [], alts := [], laidByText := true, laidKinds := [.handle, .sentinel, .sentinel, .sentinel, .sentinel, .sentinel, .sentinel, .sentinel, .sentinel, .sentinel, .sentinel], laidTests := true, laidLooks := .later }
def CacheFullUptoCardSaid : Prop := Claim7.holds Tryz.pinned (.plain (OpenSpec.upto cacheFullSpec)) cacheFullUptoCard

/-- THE SECOND FORM's CARD OF 'assentlaw14.CachePlays'. -/
def cachePlaysUptoCard : Claim7 := { stood := { row := cachePlaysUptoRow, standIns := [], harness := (true, "adfb8931d7f5ffe053594f98c23235e2300657f464eb78fdacdcb433702c79f6"), looks := true }, kinds := [], alts := [], laidByText := true, laidKinds := [.handle, .sentinel, .sentinel, .sentinel, .sentinel, .sentinel, .sentinel, .sentinel, .sentinel, .sentinel, .sentinel], laidTests := true, laidLooks := .later }
def CachePlaysUptoCardSaid : Prop := Claim7.holds Tryz.pinned (.plain (OpenSpec.upto cachePlaysSpec)) cachePlaysUptoCard

/-- THE SECOND FORM's CARD OF 'assentlaw14.CacheRoom'. -/
def cacheRoomUptoCard : Claim7 := { stood := { row := cacheRoomUptoRow, standIns := [], harness := (true, "adfb8931d7f5ffe053594f98c23235e2300657f464eb78fdacdcb433702c79f6"), looks := true }, kinds := [], alts := [], laidByText := true, laidKinds := [.handle, .sentinel, .sentinel, .sentinel, .sentinel, .sentinel, .sentinel, .sentinel, .sentinel, .sentinel, .sentinel], laidTests := true, laidLooks := .later }
def CacheRoomUptoCardSaid : Prop := Claim7.holds Tryz.pinned (.plain (OpenSpec.upto cacheRoomSpec)) cacheRoomUptoCard

/-- THE SECOND FORM's CARD OF 'assentlaw14.CacheWrites'. -/
def cacheWritesUptoCard : Claim7 := { stood := { row := cacheWritesUptoRow, standIns := [], harness := (true, "adfb8931d7f5ffe053594f98c23235e2300657f464eb78fdacdcb433702c79f6"), looks := true }, kinds := [], alts := [], laidByText := true, laidKinds := [.handle, .sentinel, .sentinel, .sentinel, .sentinel, .sentinel, .sentinel, .sentinel, .sentinel, .sentinel, .sentinel], laidTests := true, laidLooks := .later }
def CacheWritesUptoCardSaid : Prop := Claim7.holds Tryz.pinned (.plain (OpenSpec.upto cacheWritesSpec)) cacheWritesUptoCard

/-- THE SECOND FORM's CARD OF 'assentlaw14.CacheTurns'. -/
def cacheTurnsUptoCard : Claim7 := { stood := { row := cacheTurnsUptoRow, standIns := [], harness := (true, "adfb8931d7f5ffe053594f98c23235e2300657f464eb78fdacdcb433702c79f6"), looks := true }, kinds := [], alts := [], laidByText := true, laidKinds := [.handle, .sentinel, .sentinel, .sentinel, .sentinel, .sentinel, .sentinel, .sentinel, .sentinel, .sentinel, .sentinel], laidTests := true, laidLooks := .later }
def CacheTurnsUptoCardSaid : Prop := Claim7.holds Tryz.pinned (.plain (OpenSpec.upto cacheTurnsSpec)) cacheTurnsUptoCard

/-- THE SECOND FORM's CARD OF 'assentlaw14.CacheLost'. -/
def cacheLostUptoCard : Claim7 := { stood := { row := cacheLostUptoRow, standIns := [], harness := (true, "adfb8931d7f5ffe053594f98c23235e2300657f464eb78fdacdcb433702c79f6"), looks := true }, kinds := [], alts := [], laidByText := true, laidKinds := [.handle, .sentinel, .sentinel, .sentinel, .sentinel, .sentinel, .sentinel, .sentinel, .sentinel, .sentinel, .sentinel], laidTests := true, laidLooks := .later }
def CacheLostUptoCardSaid : Prop := Claim7.holds Tryz.pinned (.plain (OpenSpec.upto cacheLostSpec)) cacheLostUptoCard

/-- THE SECOND FORM's CARD OF 'assentlaw14.CacheNew'. -/
def cacheNewUptoCard : Claim7 := { stood := { row := cacheNewUptoRow, standIns := [], harness := (true, "adfb8931d7f5ffe053594f98c23235e2300657f464eb78fdacdcb433702c79f6"), looks := true }, kinds := [], alts := [], laidByText := true, laidKinds := [.handle, .sentinel, .sentinel, .sentinel, .sentinel, .sentinel, .sentinel, .sentinel, .sentinel, .sentinel, .sentinel], laidTests := true, laidLooks := .later }
def CacheNewUptoCardSaid : Prop := Claim7.holds Tryz.pinned (.plain (OpenSpec.upto cacheNewSpec)) cacheNewUptoCard
end Rows
end Go.Proofs.YtfaihaknibmcpaaGreatDoor
