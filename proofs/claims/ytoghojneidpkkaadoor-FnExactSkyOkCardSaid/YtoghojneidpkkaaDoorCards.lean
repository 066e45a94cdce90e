/-
  DERIVED. GIVEN WITH THE SEED: THE CARDS: each row of YtoghojneidpkkaaDoorRows.lean that lists a variable, with what it lists TIED to the program's text (the seventh form; the later family's looks); each row that meets fmt, with fmt's text TOLD by the authors' own Lean function (tested against real Go, not proved from fmt's source: count such statements apart). THE CARD IS WHAT COUNTS. Prove the row's statement (the work); the ties are given (YtoghojneidpkkaaDoorTie.lean); close each card by the builder's one call (the guide's Derived/Test/ToyasCard.lean, 'card_holds'). Laid BY PROGRAM, IN A SANDBOX (cutbox-door.mjs). By AI agents, Wed Nov 11 2026. No macro, syntax, notation, axiom, sorry.
-/
import Derived.Test.YtoghojneidpkkaaDoorRows
import GoSem.ClaimSeven
namespace Go.Proofs.YtoghojneidpkkaaDoor
namespace Rows

/-- THE TIED CARD OF 'laws.FnExactSkyOk'. -/
def fnExactSkyOkCard : Claim7 := { stood := { row := fnExactSkyOkRow, standIns := [], harness := (true, "146f26d8eeef93a4c9d70a7a2064719ee5f0e28455c1137f67466653771f076c"), looks := false }, kinds := [], alts := [], laidByText := true, laidKinds := [.widerDeep, .widerDeep], laidTests := true, laidLooks := .later }
def FnExactSkyOkCardSaid : Prop := Claim7.holds Tryd.pinned (.plain (OpenSpec.ofChange fnExactSkyOkSpec)) fnExactSkyOkCard

/-- THE TIED CARD OF 'laws.FnExactBeaufort'. -/
def fnExactBeaufortCard : Claim7 := { stood := { row := fnExactBeaufortRow, standIns := [], harness := (true, "146f26d8eeef93a4c9d70a7a2064719ee5f0e28455c1137f67466653771f076c"), looks := false }, kinds := [], alts := [], laidByText := true, laidKinds := [.data], laidTests := true, laidLooks := .later }
def FnExactBeaufortCardSaid : Prop := Claim7.holds Tryd.pinned (.plain (OpenSpec.ofChange fnExactBeaufortSpec)) fnExactBeaufortCard

/-- THE SECOND FORM's CARD OF 'laws.FnExactSkyOk'. -/
def fnExactSkyOkUptoCard : Claim7 := { stood := { row := fnExactSkyOkUptoRow, standIns := [], harness := (true, "146f26d8eeef93a4c9d70a7a2064719ee5f0e28455c1137f67466653771f076c"), looks := false }, kinds := [], alts := [], laidByText := true, laidKinds := [.widerDeep, .widerDeep], laidTests := true, laidLooks := .later }
def FnExactSkyOkUptoCardSaid : Prop := Claim7.holds Tryd.pinned (.plain (OpenSpec.upto fnExactSkyOkSpec)) fnExactSkyOkUptoCard

/-- THE SECOND FORM's CARD OF 'laws.FnExactBeaufort'. -/
def fnExactBeaufortUptoCard : Claim7 := { stood := { row := fnExactBeaufortUptoRow, standIns := [], harness := (true, "146f26d8eeef93a4c9d70a7a2064719ee5f0e28455c1137f67466653771f076c"), looks := false }, kinds := [], alts := [], laidByText := true, laidKinds := [.data], laidTests := true, laidLooks := .later }
def FnExactBeaufortUptoCardSaid : Prop := Claim7.holds Tryd.pinned (.plain (OpenSpec.upto fnExactBeaufortSpec)) fnExactBeaufortUptoCard
end Rows
end Go.Proofs.YtoghojneidpkkaaDoor
