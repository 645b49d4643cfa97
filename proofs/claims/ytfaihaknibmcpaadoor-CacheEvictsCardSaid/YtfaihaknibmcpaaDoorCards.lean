/-
  DERIVED. GIVEN WITH THE SEED: THE CARDS: each row of YtfaihaknibmcpaaDoorRows.lean that lists a variable, with what it lists TIED to the program's text (the seventh form; the later family's looks); each row that meets fmt, with fmt's text TOLD by the authors' own Lean function (tested against real Go, not proved from fmt's source: count such statements apart). THE CARD IS WHAT COUNTS. Prove the row's statement (the work); the ties are given (YtfaihaknibmcpaaDoorTie.lean); close each card by the builder's one call (the guide's Derived/Test/ToyasCard.lean, 'card_holds'). Laid BY PROGRAM, IN A SANDBOX (cutbox-door.mjs). By AI agents, Wed Nov 11 2026. No macro, syntax, notation, axiom, sorry.
-/
import Derived.Test.YtfaihaknibmcpaaDoorRows
import GoSem.ClaimSeven
namespace Go.Proofs.YtfaihaknibmcpaaDoor
namespace Rows

/-- THE TIED CARD OF 'assentlaw14.CacheRuns'. -/
def cacheRunsCard : Claim7 := { stood := { row := cacheRunsRow, standIns := [], harness := (true, "41aa70f79a857b513ed7fadfd5ae5c813d238487f6ad8c115bd1154af6c4e851"), looks := true }, kinds := [], alts := [], laidByText := true, laidKinds := [.handle, .sentinel, .sentinel, .sentinel, .sentinel, .sentinel, .sentinel, .sentinel, .sentinel, .sentinel, .sentinel], laidTests := true, laidLooks := .later }
def CacheRunsCardSaid : Prop := Claim7.holds Tryd.pinned (.plain (OpenSpec.ofChange cacheRunsSpec)) cacheRunsCard

/-- THE TIED CARD OF 'assentlaw14.CacheFresh'. -/
def cacheFreshCard : Claim7 := { stood := { row := cacheFreshRow, standIns := [], harness := (true, "41aa70f79a857b513ed7fadfd5ae5c813d238487f6ad8c115bd1154af6c4e851"), looks := true }, kinds := [], alts := [], laidByText := true, laidKinds := [.handle, .sentinel, .sentinel, .sentinel, .sentinel, .sentinel, .sentinel, .sentinel, .sentinel, .sentinel, .sentinel], laidTests := true, laidLooks := .later }
def CacheFreshCardSaid : Prop := Claim7.holds Tryd.pinned (.plain (OpenSpec.ofChange cacheFreshSpec)) cacheFreshCard

/-- THE TIED CARD OF 'assentlaw14.CacheAsks'. -/
def cacheAsksCard : Claim7 := { stood := { row := cacheAsksRow, standIns := [], harness := (true, "41aa70f79a857b513ed7fadfd5ae5c813d238487f6ad8c115bd1154af6c4e851"), looks := true }, kinds := [], alts := [], laidByText := true, laidKinds := [.handle, .sentinel, .sentinel, .sentinel, .sentinel, .sentinel, .sentinel, .sentinel, .sentinel, .sentinel, .sentinel], laidTests := true, laidLooks := .later }
def CacheAsksCardSaid : Prop := Claim7.holds Tryd.pinned (.plain (OpenSpec.ofChange cacheAsksSpec)) cacheAsksCard

/-- THE TIED CARD OF 'assentlaw14.CacheHeld'. -/
def cacheHeldCard : Claim7 := { stood := { row := cacheHeldRow, standIns := [], harness := (true, "41aa70f79a857b513ed7fadfd5ae5c813d238487f6ad8c115bd1154af6c4e851"), looks := true }, kinds := [], alts := [], laidByText := true, laidKinds := [.handle, .sentinel, .sentinel, .sentinel, .sentinel, .sentinel, .sentinel, .sentinel, .sentinel, .sentinel, .sentinel], laidTests := true, laidLooks := .later }
def CacheHeldCardSaid : Prop := Claim7.holds Tryd.pinned (.plain (OpenSpec.ofChange cacheHeldSpec)) cacheHeldCard

/-- THE TIED CARD OF 'assentlaw14.CacheEvicts'. -/
def cacheEvictsCard : Claim7 := { stood := { row := cacheEvictsRow, standIns := [], harness := (true, "41aa70f79a857b513ed7fadfd5ae5c813d238487f6ad8c115bd1154af6c4e851"), looks := true }, kinds := [], alts := [], laidByText := true, laidKinds := [.handle, .sentinel, .sentinel, .sentinel, .sentinel, .sentinel, .sentinel, .sentinel, .sentinel, .sentinel, .sentinel], laidTests := true, laidLooks := .later }
def CacheEvictsCardSaid : Prop := Claim7.holds Tryd.pinned (.plain (OpenSpec.ofChange cacheEvictsSpec)) cacheEvictsCard

/-- THE TIED CARD OF 'assentlaw14.CacheGone'. -/
def cacheGoneCard : Claim7 := { stood := { row := cacheGoneRow, standIns := [], harness := (true, "41aa70f79a857b513ed7fadfd5ae5c813d238487f6ad8c115bd1154af6c4e851"), looks := true }, kinds := [], alts := [], laidByText := true, laidKinds := [.handle, .sentinel, .sentinel, .sentinel, .sentinel, .sentinel, .sentinel, .sentinel, .sentinel, .sentinel, .sentinel], laidTests := true, laidLooks := .later }
def CacheGoneCardSaid : Prop := Claim7.holds Tryd.pinned (.plain (OpenSpec.ofChange cacheGoneSpec)) cacheGoneCard

/-- THE TIED CARD OF 'assentlaw14.CacheLeast'. -/
def cacheLeastCard : Claim7 := { stood := { row := cacheLeastRow, standIns := [], harness := (true, "41aa70f79a857b513ed7fadfd5ae5c813d238487f6ad8c115bd1154af6c4e851"), looks := true }, kinds := [], alts := [], laidByText := true, laidKinds := [.handle, .sentinel, .sentinel, .sentinel, .sentinel, .sentinel, .sentinel, .sentinel, .sentinel, .sentinel, .sentinel], laidTests := true, laidLooks := .later }
def CacheLeastCardSaid : Prop := Claim7.holds Tryd.pinned (.plain (OpenSpec.ofChange cacheLeastSpec)) cacheLeastCard

/-- THE SECOND FORM's CARD OF 'assentlaw14.CacheRuns'. -/
def cacheRunsUptoCard : Claim7 := { stood := { row := cacheRunsUptoRow, standIns := [], harness := (true, "41aa70f79a857b513ed7fadfd5ae5c813d238487f6ad8c115bd1154af6c4e851"), looks := true }, kinds := [], alts := [], laidByText := true, laidKinds := [.handle, .sentinel, .sentinel, .sentinel, .sentinel, .sentinel, .sentinel, .sentinel, .sentinel, .sentinel, .sentinel], laidTests := true, laidLooks := .later }
def CacheRunsUptoCardSaid : Prop := Claim7.holds Tryd.pinned (.plain (OpenSpec.upto cacheRunsSpec)) cacheRunsUptoCard

/-- THE SECOND FORM's CARD OF 'assentlaw14.CacheFresh'. -/
def cacheFreshUptoCard : Claim7 := { stood := { row := cacheFreshUptoRow, standIns := [], harness := (true, "41aa70f79a857b513ed7fadfd5ae5c813d238487f6ad8c115bd1154af6c4e851"), looks := true }, kinds := [], alts := [], laidByText := true, laidKinds := [.handle, .sentinel, .sentinel, .sentinel, .sentinel, .sentinel, .sentinel, .sentinel, .sentinel, .sentinel, .sentinel], laidTests := true, laidLooks := .later }
def CacheFreshUptoCardSaid : Prop := Claim7.holds Tryd.pinned (.plain (OpenSpec.upto cacheFreshSpec)) cacheFreshUptoCard

/-- THE SECOND FORM's CARD OF 'assentlaw14.CacheAsks'. -/
def cacheAsksUptoCard : Claim7 := { stood := { row := cacheAsksUptoRow, standIns := [], harness := (true, "41aa70f79a857b513ed7fadfd5ae5c813d238487f6ad8c115bd1154af6c4e851"), looks := true }, kinds := [], alts := [], laidByText := true, laidKinds := [.handle, .sentinel, .sentinel, .sentinel, .sentinel, .sentinel, .sentinel, .sentinel, .sentinel, .sentinel, .sentinel], laidTests := true, laidLooks := .later }
def CacheAsksUptoCardSaid : Prop := Claim7.holds Tryd.pinned (.plain (OpenSpec.upto cacheAsksSpec)) cacheAsksUptoCard

/-- THE SECOND FORM's CARD OF 'assentlaw14.CacheHeld'. -/
def cacheHeldUptoCard : Claim7 := { stood := { row := cacheHeldUptoRow, standIns := [], harness := (true, "41aa70f79a857b513ed7fadfd5ae5c813d238487f6ad8c115bd1154af6c4e851"), looks := true }, kinds := [], alts := [], laidByText := true, laidKinds := [.handle, .sentinel, .sentinel, .sentinel, .sentinel, .sentinel, .sentinel, .sentinel, .sentinel, .sentinel, .sentinel], laidTests := true, laidLooks := .later }
def CacheHeldUptoCardSaid : Prop := Claim7.holds Tryd.pinned (.plain (OpenSpec.upto cacheHeldSpec)) cacheHeldUptoCard

/-- THE SECOND FORM's CARD OF 'assentlaw14.CacheEvicts'. -/
def cacheEvictsUptoCard : Claim7 := { stood := { row := cacheEvictsUptoRow, standIns := [], harness := (true, "41aa70f79a857b513ed7fadfd5ae5c813d238487f6ad8c115bd1154af6c4e851"), looks := true }, kinds := [], alts := [], laidByText := true, laidKinds := [.handle, .sentinel, .sentinel, .sentinel, .sentinel, .sentinel, .sentinel, .sentinel, .sentinel, .sentinel, .sentinel], laidTests := true, laidLooks := .later }
def CacheEvictsUptoCardSaid : Prop := Claim7.holds Tryd.pinned (.plain (OpenSpec.upto cacheEvictsSpec)) cacheEvictsUptoCard

/-- THE SECOND FORM's CARD OF 'assentlaw14.CacheGone'. -/
def cacheGoneUptoCard : Claim7 := { stood := { row := cacheGoneUptoRow, standIns := [], harness := (true, "41aa70f79a857b513ed7fadfd5ae5c813d238487f6ad8c115bd1154af6c4e851"), looks := true }, kinds := [], alts := [], laidByText := true, laidKinds := [.handle, .sentinel, .sentinel, .sentinel, .sentinel, .sentinel, .sentinel, .sentinel, .sentinel, .sentinel, .sentinel], laidTests := true, laidLooks := .later }
def CacheGoneUptoCardSaid : Prop := Claim7.holds Tryd.pinned (.plain (OpenSpec.upto cacheGoneSpec)) cacheGoneUptoCard

/-- THE SECOND FORM's CARD OF 'assentlaw14.CacheLeast'. -/
def cacheLeastUptoCard : Claim7 := { stood := { row := cacheLeastUptoRow, standIns := [], harness := (true, "41aa70f79a857b513ed7fadfd5ae5c813d238487f6ad8c115bd1154af6c4e851"), looks := true }, kinds := [], alts := [], laidByText := true, laidKinds := [.handle, .sentinel, .sentinel, .sentinel, .sentinel, .sentinel, .sentinel, .sentinel, .sentinel, .sentinel, .sentinel], laidTests := true, laidLooks := .later }
def CacheLeastUptoCardSaid : Prop := Claim7.holds Tryd.pinned (.plain (OpenSpec.upto cacheLeastSpec)) cacheLeastUptoCard
end Rows
end Go.Proofs.YtfaihaknibmcpaaDoor
