/-
  DERIVED. GIVEN WITH THE SEED: THE CARDS: each row of YtbgacfjocjcffabDoorRows.lean that lists a variable, with what it lists TIED to the program's text (the seventh form; the later family's looks); each row that meets fmt, with fmt's text TOLD by the authors' own Lean function (tested against real Go, not proved from fmt's source: count such statements apart). THE CARD IS WHAT COUNTS. Prove the row's statement (the work); the ties are given (YtbgacfjocjcffabDoorTie.lean); close each card by the builder's one call (the guide's Derived/Test/ToyasCard.lean, 'card_holds'). Laid BY PROGRAM, IN A SANDBOX (cutbox-door.mjs). By AI agents, Wed Nov 11 2026. No macro, syntax, notation, axiom, sorry.
-/
import Derived.Test.YtbgacfjocjcffabDoorRows
import GoSem.ClaimSeven
namespace Go.Proofs.YtbgacfjocjcffabDoor
namespace Rows

/-- THE TIED CARD OF 'laws.FnExactBeaufort'. -/
def fnExactBeaufortCard : Claim7 := { stood := { row := fnExactBeaufortRow, standIns := [], harness := (true, "4eda3f75dc068934f9943750c2e4a98f0a76d63eaa61592762f47950a8ba6c05"), looks := false }, kinds := [], alts := [], laidByText := true, laidKinds := [.data], laidTests := true, laidLooks := .later }
def FnExactBeaufortCardSaid : Prop := Claim7.holds Tryd.pinned (.plain (OpenSpec.ofChange fnExactBeaufortSpec)) fnExactBeaufortCard

/-- THE TIED CARD OF 'laws.FnExactWindPair'. -/
def fnExactWindPairCard : Claim7 := { stood := { row := fnExactWindPairRow, standIns := [], harness := (true, "4eda3f75dc068934f9943750c2e4a98f0a76d63eaa61592762f47950a8ba6c05"), looks := false }, kinds := [], alts := [], laidByText := true, laidKinds := [.data], laidTests := true, laidLooks := .later }
def FnExactWindPairCardSaid : Prop := Claim7.holds Tryd.pinned (.plain (OpenSpec.ofChange fnExactWindPairSpec)) fnExactWindPairCard

/-- THE TIED CARD OF 'laws.FnExactTurn'. -/
def fnExactTurnCard : Claim7 := { stood := { row := fnExactTurnRow, standIns := [], harness := (true, "4eda3f75dc068934f9943750c2e4a98f0a76d63eaa61592762f47950a8ba6c05"), looks := false }, kinds := [], alts := [], laidByText := true, laidKinds := [.data], laidTests := true, laidLooks := .later }
def FnExactTurnCardSaid : Prop := Claim7.holds Tryd.pinned (.plain (OpenSpec.ofChange fnExactTurnSpec)) fnExactTurnCard

/-- THE TIED CARD OF 'laws.FnExactAnalyse'. -/
def fnExactAnalyseCard : Claim7 := { stood := { row := fnExactAnalyseRow, standIns := [], harness := (true, "4eda3f75dc068934f9943750c2e4a98f0a76d63eaa61592762f47950a8ba6c05"), looks := false }, kinds := [], alts := [], laidByText := true, laidKinds := [.data], laidTests := true, laidLooks := .later }
def FnExactAnalyseCardSaid : Prop := Claim7.holds Tryd.pinned (.plain (OpenSpec.ofChange fnExactAnalyseSpec)) fnExactAnalyseCard

/-- THE TIED CARD OF 'laws.FnExactConvert'. -/
def fnExactConvertCard : Claim7 := { stood := { row := fnExactConvertRow, standIns := [], harness := (true, "4eda3f75dc068934f9943750c2e4a98f0a76d63eaa61592762f47950a8ba6c05"), looks := false }, kinds := [], alts := [], laidByText := true, laidKinds := [.data], laidTests := true, laidLooks := .later }
def FnExactConvertCardSaid : Prop := Claim7.holds Tryd.pinned (.plain (OpenSpec.ofChange fnExactConvertSpec)) fnExactConvertCard

/-- THE TIED CARD OF 'laws.FnTurned'. -/
def fnTurnedCard : Claim7 := { stood := { row := fnTurnedRow, standIns := [], harness := (true, "4eda3f75dc068934f9943750c2e4a98f0a76d63eaa61592762f47950a8ba6c05"), looks := false }, kinds := [], alts := [], laidByText := true, laidKinds := [.data], laidTests := true, laidLooks := .later }
def FnTurnedCardSaid : Prop := Claim7.holds Tryd.pinned (.plain (OpenSpec.ofChange fnTurnedSpec)) fnTurnedCard

/-- THE SECOND FORM's CARD OF 'laws.FnExactBeaufort'. -/
def fnExactBeaufortUptoCard : Claim7 := { stood := { row := fnExactBeaufortUptoRow, standIns := [], harness := (true, "4eda3f75dc068934f9943750c2e4a98f0a76d63eaa61592762f47950a8ba6c05"), looks := false }, kinds := [], alts := [], laidByText := true, laidKinds := [.data], laidTests := true, laidLooks := .later }
def FnExactBeaufortUptoCardSaid : Prop := Claim7.holds Tryd.pinned (.plain (OpenSpec.upto fnExactBeaufortSpec)) fnExactBeaufortUptoCard

/-- THE SECOND FORM's CARD OF 'laws.FnExactWindPair'. -/
def fnExactWindPairUptoCard : Claim7 := { stood := { row := fnExactWindPairUptoRow, standIns := [], harness := (true, "4eda3f75dc068934f9943750c2e4a98f0a76d63eaa61592762f47950a8ba6c05"), looks := false }, kinds := [], alts := [], laidByText := true, laidKinds := [.data], laidTests := true, laidLooks := .later }
def FnExactWindPairUptoCardSaid : Prop := Claim7.holds Tryd.pinned (.plain (OpenSpec.upto fnExactWindPairSpec)) fnExactWindPairUptoCard

/-- THE SECOND FORM's CARD OF 'laws.FnExactTurn'. -/
def fnExactTurnUptoCard : Claim7 := { stood := { row := fnExactTurnUptoRow, standIns := [], harness := (true, "4eda3f75dc068934f9943750c2e4a98f0a76d63eaa61592762f47950a8ba6c05"), looks := false }, kinds := [], alts := [], laidByText := true, laidKinds := [.data], laidTests := true, laidLooks := .later }
def FnExactTurnUptoCardSaid : Prop := Claim7.holds Tryd.pinned (.plain (OpenSpec.upto fnExactTurnSpec)) fnExactTurnUptoCard

/-- THE SECOND FORM's CARD OF 'laws.FnExactAnalyse'. -/
def fnExactAnalyseUptoCard : Claim7 := { stood := { row := fnExactAnalyseUptoRow, standIns := [], harness := (true, "4eda3f75dc068934f9943750c2e4a98f0a76d63eaa61592762f47950a8ba6c05"), looks := false }, kinds := [], alts := [], laidByText := true, laidKinds := [.data], laidTests := true, laidLooks := .later }
def FnExactAnalyseUptoCardSaid : Prop := Claim7.holds Tryd.pinned (.plain (OpenSpec.upto fnExactAnalyseSpec)) fnExactAnalyseUptoCard

/-- THE SECOND FORM's CARD OF 'laws.FnExactConvert'. -/
def fnExactConvertUptoCard : Claim7 := { stood := { row := fnExactConvertUptoRow, standIns := [], harness := (true, "4eda3f75dc068934f9943750c2e4a98f0a76d63eaa61592762f47950a8ba6c05"), looks := false }, kinds := [], alts := [], laidByText := true, laidKinds := [.data], laidTests := true, laidLooks := .later }
def FnExactConvertUptoCardSaid : Prop := Claim7.holds Tryd.pinned (.plain (OpenSpec.upto fnExactConvertSpec)) fnExactConvertUptoCard

/-- THE SECOND FORM's CARD OF 'laws.FnTurned'. -/
def fnTurnedUptoCard : Claim7 := { stood := { row := fnTurnedUptoRow, standIns := [], harness := (true, "4eda3f75dc068934f9943750c2e4a98f0a76d63eaa61592762f47950a8ba6c05"), looks := false }, kinds := [], alts := [], laidByText := true, laidKinds := [.data], laidTests := true, laidLooks := .later }
def FnTurnedUptoCardSaid : Prop := Claim7.holds Tryd.pinned (.plain (OpenSpec.upto fnTurnedSpec)) fnTurnedUptoCard
end Rows
end Go.Proofs.YtbgacfjocjcffabDoor
