/-
  DERIVED. GIVEN WITH THE SEED: THE CARDS: each row of YtofnhgpiipmegaaDoorRows.lean that lists a variable, with what it lists TIED to the program's text (the seventh form; the later family's looks); each row that meets fmt, with fmt's text TOLD by the authors' own Lean function (tested against real Go, not proved from fmt's source: count such statements apart). THE CARD IS WHAT COUNTS. Prove the row's statement (the work); the ties are given (YtofnhgpiipmegaaDoorTie.lean); close each card by the builder's one call (the guide's Derived/Test/ToyasCard.lean, 'card_holds'). Laid BY PROGRAM, IN A SANDBOX (cutbox-door.mjs). By AI agents, Wed Nov 11 2026. No macro, syntax, notation, axiom, sorry.
-/
import Derived.Test.YtofnhgpiipmegaaDoorRows
import GoSem.ClaimSeven
namespace Go.Proofs.YtofnhgpiipmegaaDoor
namespace Rows

/-- THE TIED CARD OF 'turnoutlaw01.ValueTexts'. -/
def valueTextsCard : Claim7 := { stood := { row := valueTextsRow, standIns := [], harness := (true, "ee48f736005b169c54654d459aee0a4d9cff93c858accf98d941a182fe7a3ae2"), looks := false }, kinds := [], alts := [], laidByText := true, laidKinds := [.data, .data, .pinned], laidTests := true, laidLooks := .later }
def ValueTextsCardSaid : Prop := Claim7.holds Tryd.pinned (.plain (OpenSpec.ofChange valueTextsSpec)) valueTextsCard

/-- THE TIED CARD OF 'turnoutlaw01.ValueBack'. -/
def valueBackCard : Claim7 := { stood := { row := valueBackRow, standIns := [], harness := (true, "ee48f736005b169c54654d459aee0a4d9cff93c858accf98d941a182fe7a3ae2"), looks := false }, kinds := [], alts := [], laidByText := true, laidKinds := [.data, .data, .pinned], laidTests := true, laidLooks := .later }
def ValueBackCardSaid : Prop := Claim7.holds Tryd.pinned (.plain (OpenSpec.ofChange valueBackSpec)) valueBackCard

/-- THE TIED CARD OF 'turnoutlaw01.ValueCarries'. -/
def valueCarriesCard : Claim7 := { stood := { row := valueCarriesRow, standIns := [], harness := (true, "ee48f736005b169c54654d459aee0a4d9cff93c858accf98d941a182fe7a3ae2"), looks := false }, kinds := [], alts := [], laidByText := true, laidKinds := [.data, .data, .pinned], laidTests := true, laidLooks := .later }
def ValueCarriesCardSaid : Prop := Claim7.holds Tryd.pinned (.plain (OpenSpec.ofChange valueCarriesSpec)) valueCarriesCard

/-- THE TIED CARD OF 'turnoutlaw01.ValueOrder'. -/
def valueOrderCard : Claim7 := { stood := { row := valueOrderRow, standIns := [], harness := (true, "ee48f736005b169c54654d459aee0a4d9cff93c858accf98d941a182fe7a3ae2"), looks := false }, kinds := [], alts := [], laidByText := true, laidKinds := [.data, .data, .pinned], laidTests := true, laidLooks := .later }
def ValueOrderCardSaid : Prop := Claim7.holds Tryd.pinned (.plain (OpenSpec.ofChange valueOrderSpec)) valueOrderCard

/-- THE TIED CARD OF 'turnoutlaw01.ValueBits'. -/
def valueBitsCard : Claim7 := { stood := { row := valueBitsRow, standIns := [], harness := (true, "ee48f736005b169c54654d459aee0a4d9cff93c858accf98d941a182fe7a3ae2"), looks := false }, kinds := [], alts := [], laidByText := true, laidKinds := [.data, .data, .pinned], laidTests := true, laidLooks := .later }
def ValueBitsCardSaid : Prop := Claim7.holds Tryd.pinned (.plain (OpenSpec.ofChange valueBitsSpec)) valueBitsCard

/-- THE SECOND FORM's CARD OF 'turnoutlaw01.ValueTexts'. -/
def valueTextsUptoCard : Claim7 := { stood := { row := valueTextsUptoRow, standIns := [], harness := (true, "ee48f736005b169c54654d459aee0a4d9cff93c858accf98d941a182fe7a3ae2"), looks := false }, kinds := [], alts := [], laidByText := true, laidKinds := [.data, .data, .pinned], laidTests := true, laidLooks := .later }
def ValueTextsUptoCardSaid : Prop := Claim7.holds Tryd.pinned (.plain (OpenSpec.upto valueTextsSpec)) valueTextsUptoCard

/-- THE SECOND FORM's CARD OF 'turnoutlaw01.ValueBack'. -/
def valueBackUptoCard : Claim7 := { stood := { row := valueBackUptoRow, standIns := [], harness := (true, "ee48f736005b169c54654d459aee0a4d9cff93c858accf98d941a182fe7a3ae2"), looks := false }, kinds := [], alts := [], laidByText := true, laidKinds := [.data, .data, .pinned], laidTests := true, laidLooks := .later }
def ValueBackUptoCardSaid : Prop := Claim7.holds Tryd.pinned (.plain (OpenSpec.upto valueBackSpec)) valueBackUptoCard

/-- THE SECOND FORM's CARD OF 'turnoutlaw01.ValueCarries'. -/
def valueCarriesUptoCard : Claim7 := { stood := { row := valueCarriesUptoRow, standIns := [], harness := (true, "ee48f736005b169c54654d459aee0a4d9cff93c858accf98d941a182fe7a3ae2"), looks := false }, kinds := [], alts := [], laidByText := true, laidKinds := [.data, .data, .pinned], laidTests := true, laidLooks := .later }
def ValueCarriesUptoCardSaid : Prop := Claim7.holds Tryd.pinned (.plain (OpenSpec.upto valueCarriesSpec)) valueCarriesUptoCard

/-- THE SECOND FORM's CARD OF 'turnoutlaw01.ValueOrder'. -/
def valueOrderUptoCard : Claim7 := { stood := { row := valueOrderUptoRow, standIns := [], harness := (true, "ee48f736005b169c54654d459aee0a4d9cff93c858accf98d941a182fe7a3ae2"), looks := false }, kinds := [], alts := [], laidByText := true, laidKinds := [.data, .data, .pinned], laidTests := true, laidLooks := .later }
def ValueOrderUptoCardSaid : Prop := Claim7.holds Tryd.pinned (.plain (OpenSpec.upto valueOrderSpec)) valueOrderUptoCard

/-- THE SECOND FORM's CARD OF 'turnoutlaw01.ValueBits'. -/
def valueBitsUptoCard : Claim7 := { stood := { row := valueBitsUptoRow, standIns := [], harness := (true, "ee48f736005b169c54654d459aee0a4d9cff93c858accf98d941a182fe7a3ae2"), looks := false }, kinds := [], alts := [], laidByText := true, laidKinds := [.data, .data, .pinned], laidTests := true, laidLooks := .later }
def ValueBitsUptoCardSaid : Prop := Claim7.holds Tryd.pinned (.plain (OpenSpec.upto valueBitsSpec)) valueBitsUptoCard
end Rows
end Go.Proofs.YtofnhgpiipmegaaDoor
