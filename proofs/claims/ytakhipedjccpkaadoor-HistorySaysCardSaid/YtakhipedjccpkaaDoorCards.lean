/-
  DERIVED. GIVEN WITH THE SEED: THE CARDS: each row of YtakhipedjccpkaaDoorRows.lean that lists a variable, with what it lists TIED to the program's text (the seventh form; the later family's looks); each row that meets fmt, with fmt's text TOLD by the authors' own Lean function (tested against real Go, not proved from fmt's source: count such statements apart). THE CARD IS WHAT COUNTS. Prove the row's statement (the work); the ties are given (YtakhipedjccpkaaDoorTie.lean); close each card by the builder's one call (the guide's Derived/Test/ToyasCard.lean, 'card_holds'). Laid BY PROGRAM, IN A SANDBOX (cutbox-door.mjs). By AI agents, Wed Nov 11 2026. No macro, syntax, notation, axiom, sorry.
-/
import Derived.Test.YtakhipedjccpkaaDoorRows
import GoSem.ClaimSeven
namespace Go.Proofs.YtakhipedjccpkaaDoor
namespace Rows

/-- THE TIED CARD OF 'butlerlaw03.HistorySays'. -/
def historySaysCard : Claim7 := { stood := { row := historySaysRow, standIns := [], harness := (true, "37dd426a8a1c2279fdd71a8010354e74dfa3c98fabe4bcbda612d8f8fc945121"), looks := false }, kinds := [], alts := [], laidByText := true, laidKinds := [.data, .data, .data], laidTests := true, laidLooks := .later }
def HistorySaysCardSaid : Prop := Claim7.holds Tryd.pinned (.plain (OpenSpec.ofChange historySaysSpec)) historySaysCard

/-- THE TIED CARD OF 'butlerlaw03.HistoryOf'. -/
def historyOfCard : Claim7 := { stood := { row := historyOfRow, standIns := [], harness := (true, "37dd426a8a1c2279fdd71a8010354e74dfa3c98fabe4bcbda612d8f8fc945121"), looks := false }, kinds := [], alts := [], laidByText := true, laidKinds := [.data, .data, .data], laidTests := true, laidLooks := .later }
def HistoryOfCardSaid : Prop := Claim7.holds Tryd.pinned (.plain (OpenSpec.ofChange historyOfSpec)) historyOfCard

/-- THE TIED CARD OF 'butlerlaw03.HistoryRow'. -/
def historyRowCard : Claim7 := { stood := { row := historyRowRow, standIns := [], harness := (true, "37dd426a8a1c2279fdd71a8010354e74dfa3c98fabe4bcbda612d8f8fc945121"), looks := false }, kinds := [], alts := [], laidByText := true, laidKinds := [.data, .data, .data], laidTests := true, laidLooks := .later }
def HistoryRowCardSaid : Prop := Claim7.holds Tryd.pinned (.plain (OpenSpec.ofChange historyRowSpec)) historyRowCard

/-- THE TIED CARD OF 'butlerlaw03.HistoryWide'. -/
def historyWideCard : Claim7 := { stood := { row := historyWideRow, standIns := [], harness := (true, "37dd426a8a1c2279fdd71a8010354e74dfa3c98fabe4bcbda612d8f8fc945121"), looks := false }, kinds := [], alts := [], laidByText := true, laidKinds := [.data, .data, .data], laidTests := true, laidLooks := .later }
def HistoryWideCardSaid : Prop := Claim7.holds Tryd.pinned (.plain (OpenSpec.ofChange historyWideSpec)) historyWideCard

/-- THE SECOND FORM's CARD OF 'butlerlaw03.HistorySays'. -/
def historySaysUptoCard : Claim7 := { stood := { row := historySaysUptoRow, standIns := [], harness := (true, "37dd426a8a1c2279fdd71a8010354e74dfa3c98fabe4bcbda612d8f8fc945121"), looks := false }, kinds := [], alts := [], laidByText := true, laidKinds := [.data, .data, .data], laidTests := true, laidLooks := .later }
def HistorySaysUptoCardSaid : Prop := Claim7.holds Tryd.pinned (.plain (OpenSpec.upto historySaysSpec)) historySaysUptoCard

/-- THE SECOND FORM's CARD OF 'butlerlaw03.HistoryOf'. -/
def historyOfUptoCard : Claim7 := { stood := { row := historyOfUptoRow, standIns := [], harness := (true, "37dd426a8a1c2279fdd71a8010354e74dfa3c98fabe4bcbda612d8f8fc945121"), looks := false }, kinds := [], alts := [], laidByText := true, laidKinds := [.data, .data, .data], laidTests := true, laidLooks := .later }
def HistoryOfUptoCardSaid : Prop := Claim7.holds Tryd.pinned (.plain (OpenSpec.upto historyOfSpec)) historyOfUptoCard

/-- THE SECOND FORM's CARD OF 'butlerlaw03.HistoryRow'. -/
def historyRowUptoCard : Claim7 := { stood := { row := historyRowUptoRow, standIns := [], harness := (true, "37dd426a8a1c2279fdd71a8010354e74dfa3c98fabe4bcbda612d8f8fc945121"), looks := false }, kinds := [], alts := [], laidByText := true, laidKinds := [.data, .data, .data], laidTests := true, laidLooks := .later }
def HistoryRowUptoCardSaid : Prop := Claim7.holds Tryd.pinned (.plain (OpenSpec.upto historyRowSpec)) historyRowUptoCard

/-- THE SECOND FORM's CARD OF 'butlerlaw03.HistoryWide'. -/
def historyWideUptoCard : Claim7 := { stood := { row := historyWideUptoRow, standIns := [], harness := (true, "37dd426a8a1c2279fdd71a8010354e74dfa3c98fabe4bcbda612d8f8fc945121"), looks := false }, kinds := [], alts := [], laidByText := true, laidKinds := [.data, .data, .data], laidTests := true, laidLooks := .later }
def HistoryWideUptoCardSaid : Prop := Claim7.holds Tryd.pinned (.plain (OpenSpec.upto historyWideSpec)) historyWideUptoCard
end Rows
end Go.Proofs.YtakhipedjccpkaaDoor
