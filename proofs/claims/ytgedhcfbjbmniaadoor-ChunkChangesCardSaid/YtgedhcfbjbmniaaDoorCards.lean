/-
  DERIVED. GIVEN WITH THE SEED: THE CARDS: each row of YtgedhcfbjbmniaaDoorRows.lean that lists a variable, with what it lists TIED to the program's text (the seventh form; the later family's looks); each row that meets fmt, with fmt's text TOLD by the authors' own Lean function (tested against real Go, not proved from fmt's source: count such statements apart). THE CARD IS WHAT COUNTS. Prove the row's statement (the work); the ties are given (YtgedhcfbjbmniaaDoorTie.lean); close each card by the builder's one call (the guide's Derived/Test/ToyasCard.lean, 'card_holds'). Laid BY PROGRAM, IN A SANDBOX (cutbox-door.mjs). By AI agents, Wed Nov 11 2026. No macro, syntax, notation, axiom, sorry.
-/
import Derived.Test.YtgedhcfbjbmniaaDoorRows
import GoSem.ClaimSeven
namespace Go.Proofs.YtgedhcfbjbmniaaDoor
namespace Rows

/-- THE TIED CARD OF 'quicksetlaw02.ChunkChanges'. -/
def chunkChangesCard : Claim7 := { stood := { row := chunkChangesRow, standIns := [], harness := (true, "583ec544840ef20f670c1154241a20a90f88c72328e98a1cd2dab2d75337562d"), looks := false }, kinds := [], alts := [], laidByText := true, laidKinds := [.data], laidTests := true, laidLooks := .later }
def ChunkChangesCardSaid : Prop := Claim7.holds Tryd.pinned (.plain (OpenSpec.ofChange chunkChangesSpec)) chunkChangesCard

/-- THE TIED CARD OF 'quicksetlaw02.ChunkRanks'. -/
def chunkRanksCard : Claim7 := { stood := { row := chunkRanksRow, standIns := [], harness := (true, "583ec544840ef20f670c1154241a20a90f88c72328e98a1cd2dab2d75337562d"), looks := false }, kinds := [], alts := [], laidByText := true, laidKinds := [.data], laidTests := true, laidLooks := .later }
def ChunkRanksCardSaid : Prop := Claim7.holds Tryd.pinned (.plain (OpenSpec.ofChange chunkRanksSpec)) chunkRanksCard

/-- THE TIED CARD OF 'quicksetlaw02.ChunkSets'. -/
def chunkSetsCard : Claim7 := { stood := { row := chunkSetsRow, standIns := [], harness := (true, "583ec544840ef20f670c1154241a20a90f88c72328e98a1cd2dab2d75337562d"), looks := false }, kinds := [], alts := [], laidByText := true, laidKinds := [.data], laidTests := true, laidLooks := .later }
def ChunkSetsCardSaid : Prop := Claim7.holds Tryd.pinned (.plain (OpenSpec.ofChange chunkSetsSpec)) chunkSetsCard

/-- THE SECOND FORM's CARD OF 'quicksetlaw02.ChunkChanges'. -/
def chunkChangesUptoCard : Claim7 := { stood := { row := chunkChangesUptoRow, standIns := [], harness := (true, "583ec544840ef20f670c1154241a20a90f88c72328e98a1cd2dab2d75337562d"), looks := false }, kinds := [], alts := [], laidByText := true, laidKinds := [.data], laidTests := true, laidLooks := .later }
def ChunkChangesUptoCardSaid : Prop := Claim7.holds Tryd.pinned (.plain (OpenSpec.upto chunkChangesSpec)) chunkChangesUptoCard

/-- THE SECOND FORM's CARD OF 'quicksetlaw02.ChunkRanks'. -/
def chunkRanksUptoCard : Claim7 := { stood := { row := chunkRanksUptoRow, standIns := [], harness := (true, "583ec544840ef20f670c1154241a20a90f88c72328e98a1cd2dab2d75337562d"), looks := false }, kinds := [], alts := [], laidByText := true, laidKinds := [.data], laidTests := true, laidLooks := .later }
def ChunkRanksUptoCardSaid : Prop := Claim7.holds Tryd.pinned (.plain (OpenSpec.upto chunkRanksSpec)) chunkRanksUptoCard

/-- THE SECOND FORM's CARD OF 'quicksetlaw02.ChunkSets'. -/
def chunkSetsUptoCard : Claim7 := { stood := { row := chunkSetsUptoRow, standIns := [], harness := (true, "583ec544840ef20f670c1154241a20a90f88c72328e98a1cd2dab2d75337562d"), looks := false }, kinds := [], alts := [], laidByText := true, laidKinds := [.data], laidTests := true, laidLooks := .later }
def ChunkSetsUptoCardSaid : Prop := Claim7.holds Tryd.pinned (.plain (OpenSpec.upto chunkSetsSpec)) chunkSetsUptoCard
end Rows
end Go.Proofs.YtgedhcfbjbmniaaDoor
