/-
  DERIVED. GIVEN WITH THE SEED: THE CARDS: each row of YtaedhehiifkcbaaDoorRows.lean that lists a variable, with what it lists TIED to the program's text (the seventh form; the later family's looks); each row that meets fmt, with fmt's text TOLD by the authors' own Lean function (tested against real Go, not proved from fmt's source: count such statements apart). THE CARD IS WHAT COUNTS. Prove the row's statement (the work); the ties are given (YtaedhehiifkcbaaDoorTie.lean); close each card by the builder's one call (the guide's Derived/Test/ToyasCard.lean, 'card_holds'). Laid BY PROGRAM, IN A SANDBOX (cutbox-door.mjs). By AI agents, Wed Nov 11 2026. No macro, syntax, notation, axiom, sorry.
-/
import Derived.Test.YtaedhehiifkcbaaDoorRows
import GoSem.ClaimSeven
namespace Go.Proofs.YtaedhehiifkcbaaDoor
namespace Rows

/-- THE TIED CARD OF 'afterglowlaw02.DigitsHex'. -/
def digitsHexCard : Claim7 := { stood := { row := digitsHexRow, standIns := [], harness := (true, "60ebf59fac30b50fa6667040d29618abdbdaadd2361324d07dc68319162f222d"), looks := true }, kinds := [], alts := [], laidByText := true, laidKinds := [.data, .data, .data, .data, .sentinel, .sentinel, .pinned], laidTests := true, laidLooks := .later }
def DigitsHexCardSaid : Prop := Claim7.holds Tryd.pinned (.plain (OpenSpec.ofChange digitsHexSpec)) digitsHexCard

/-- THE TIED CARD OF 'afterglowlaw02.DigitsDec'. -/
def digitsDecCard : Claim7 := { stood := { row := digitsDecRow, standIns := [], harness := (true, "60ebf59fac30b50fa6667040d29618abdbdaadd2361324d07dc68319162f222d"), looks := true }, kinds := [], alts := [], laidByText := true, laidKinds := [.data, .data, .data, .data, .sentinel, .sentinel, .pinned], laidTests := true, laidLooks := .later }
def DigitsDecCardSaid : Prop := Claim7.holds Tryd.pinned (.plain (OpenSpec.ofChange digitsDecSpec)) digitsDecCard

/-- THE TIED CARD OF 'afterglowlaw02.DigitsLines'. -/
def digitsLinesCard : Claim7 := { stood := { row := digitsLinesRow, standIns := [], harness := (true, "60ebf59fac30b50fa6667040d29618abdbdaadd2361324d07dc68319162f222d"), looks := true }, kinds := [], alts := [], laidByText := true, laidKinds := [.data, .data, .data, .data, .sentinel, .sentinel, .pinned], laidTests := true, laidLooks := .later }
def DigitsLinesCardSaid : Prop := Claim7.holds Tryd.pinned (.plain (OpenSpec.ofChange digitsLinesSpec)) digitsLinesCard

/-- THE TIED CARD OF 'afterglowlaw02.DigitsSplits'. -/
def digitsSplitsCard : Claim7 := { stood := { row := digitsSplitsRow, standIns := [], harness := (true, "60ebf59fac30b50fa6667040d29618abdbdaadd2361324d07dc68319162f222d"), looks := true }, kinds := [], alts := [], laidByText := true, laidKinds := [.data, .data, .data, .data, .sentinel, .sentinel, .pinned], laidTests := true, laidLooks := .later }
def DigitsSplitsCardSaid : Prop := Claim7.holds Tryd.pinned (.plain (OpenSpec.ofChange digitsSplitsSpec)) digitsSplitsCard

/-- THE TIED CARD OF 'afterglowlaw02.DigitsRise'. -/
def digitsRiseCard : Claim7 := { stood := { row := digitsRiseRow, standIns := [], harness := (true, "60ebf59fac30b50fa6667040d29618abdbdaadd2361324d07dc68319162f222d"), looks := true }, kinds := [], alts := [], laidByText := true, laidKinds := [.data, .data, .data, .data, .sentinel, .sentinel, .pinned], laidTests := true, laidLooks := .later }
def DigitsRiseCardSaid : Prop := Claim7.holds Tryd.pinned (.plain (OpenSpec.ofChange digitsRiseSpec)) digitsRiseCard

/-- THE TIED CARD OF 'afterglowlaw02.DigitsWide'. -/
def digitsWideCard : Claim7 := { stood := { row := digitsWideRow, standIns := [], harness := (true, "60ebf59fac30b50fa6667040d29618abdbdaadd2361324d07dc68319162f222d"), looks := true }, kinds := [], alts := [], laidByText := true, laidKinds := [.data, .data, .data, .data, .sentinel, .sentinel, .pinned], laidTests := true, laidLooks := .later }
def DigitsWideCardSaid : Prop := Claim7.holds Tryd.pinned (.plain (OpenSpec.ofChange digitsWideSpec)) digitsWideCard

/-- THE TIED CARD OF 'afterglowlaw14.PageKeys'. -/
def pageKeysCard : Claim7 := { stood := { row := pageKeysRow, standIns := [], harness := (true, "60ebf59fac30b50fa6667040d29618abdbdaadd2361324d07dc68319162f222d"), looks := true }, kinds := [], alts := [], laidByText := true, laidKinds := [.data, .data, .data, .data, .sentinel, .sentinel, .pinned], laidTests := true, laidLooks := .later }
def PageKeysCardSaid : Prop := Claim7.holds Tryd.pinned (.plain (OpenSpec.ofChange pageKeysSpec)) pageKeysCard

/-- THE TIED CARD OF 'afterglowlaw14.PageOf'. -/
def pageOfCard : Claim7 := { stood := { row := pageOfRow, standIns := [], harness := (true, "60ebf59fac30b50fa6667040d29618abdbdaadd2361324d07dc68319162f222d"), looks := true }, kinds := [], alts := [], laidByText := true, laidKinds := [.data, .data, .data, .data, .sentinel, .sentinel, .pinned], laidTests := true, laidLooks := .later }
def PageOfCardSaid : Prop := Claim7.holds Tryd.pinned (.plain (OpenSpec.ofChange pageOfSpec)) pageOfCard

/-- THE TIED CARD OF 'afterglowlaw14.PageAll'. -/
def pageAllCard : Claim7 := { stood := { row := pageAllRow, standIns := [], harness := (true, "60ebf59fac30b50fa6667040d29618abdbdaadd2361324d07dc68319162f222d"), looks := true }, kinds := [], alts := [], laidByText := true, laidKinds := [.data, .data, .data, .data, .sentinel, .sentinel, .pinned], laidTests := true, laidLooks := .later }
def PageAllCardSaid : Prop := Claim7.holds Tryd.pinned (.plain (OpenSpec.ofChange pageAllSpec)) pageAllCard

/-- THE TIED CARD OF 'afterglowlaw14.PageSizes'. -/
def pageSizesCard : Claim7 := { stood := { row := pageSizesRow, standIns := [], harness := (true, "60ebf59fac30b50fa6667040d29618abdbdaadd2361324d07dc68319162f222d"), looks := true }, kinds := [], alts := [], laidByText := true, laidKinds := [.data, .data, .data, .data, .sentinel, .sentinel, .pinned], laidTests := true, laidLooks := .later }
def PageSizesCardSaid : Prop := Claim7.holds Tryd.pinned (.plain (OpenSpec.ofChange pageSizesSpec)) pageSizesCard

/-- THE TIED CARD OF 'afterglowlaw14.PageStays'. -/
def pageStaysCard : Claim7 := { stood := { row := pageStaysRow, standIns := [], harness := (true, "60ebf59fac30b50fa6667040d29618abdbdaadd2361324d07dc68319162f222d"), looks := true }, kinds := [], alts := [], laidByText := true, laidKinds := [.data, .data, .data, .data, .sentinel, .sentinel, .pinned], laidTests := true, laidLooks := .later }
def PageStaysCardSaid : Prop := Claim7.holds Tryd.pinned (.plain (OpenSpec.ofChange pageStaysSpec)) pageStaysCard

/-- THE SECOND FORM's CARD OF 'afterglowlaw02.DigitsHex'. -/
def digitsHexUptoCard : Claim7 := { stood := { row := digitsHexUptoRow, standIns := [], harness := (true, "60ebf59fac30b50fa6667040d29618abdbdaadd2361324d07dc68319162f222d"), looks := true }, kinds := [], alts := [], laidByText := true, laidKinds := [.data, .data, .data, .data, .sentinel, .sentinel, .pinned], laidTests := true, laidLooks := .later }
def DigitsHexUptoCardSaid : Prop := Claim7.holds Tryd.pinned (.plain (OpenSpec.upto digitsHexSpec)) digitsHexUptoCard

/-- THE SECOND FORM's CARD OF 'afterglowlaw02.DigitsDec'. -/
def digitsDecUptoCard : Claim7 := { stood := { row := digitsDecUptoRow, standIns := [], harness := (true, "60ebf59fac30b50fa6667040d29618abdbdaadd2361324d07dc68319162f222d"), looks := true }, kinds := [], alts := [], laidByText := true, laidKinds := [.data, .data, .data, .data, .sentinel, .sentinel, .pinned], laidTests := true, laidLooks := .later }
def DigitsDecUptoCardSaid : Prop := Claim7.holds Tryd.pinned (.plain (OpenSpec.upto digitsDecSpec)) digitsDecUptoCard

/-- THE SECOND FORM's CARD OF 'afterglowlaw02.DigitsLines'. -/
def digitsLinesUptoCard : Claim7 := { stood := { row := digitsLinesUptoRow, standIns := [], harness := (true, "60ebf59fac30b50fa6667040d29618abdbdaadd2361324d07dc68319162f222d"), looks := true }, kinds := [], alts := [], laidByText := true, laidKinds := [.data, .data, .data, .data, .sentinel, .sentinel, .pinned], laidTests := true, laidLooks := .later }
def DigitsLinesUptoCardSaid : Prop := Claim7.holds Tryd.pinned (.plain (OpenSpec.upto digitsLinesSpec)) digitsLinesUptoCard

/-- THE SECOND FORM's CARD OF 'afterglowlaw02.DigitsSplits'. -/
def digitsSplitsUptoCard : Claim7 := { stood := { row := digitsSplitsUptoRow, standIns := [], harness := (true, "60ebf59fac30b50fa6667040d29618abdbdaadd2361324d07dc68319162f222d"), looks := true }, kinds := [], alts := [], laidByText := true, laidKinds := [.data, .data, .data, .data, .sentinel, .sentinel, .pinned], laidTests := true, laidLooks := .later }
def DigitsSplitsUptoCardSaid : Prop := Claim7.holds Tryd.pinned (.plain (OpenSpec.upto digitsSplitsSpec)) digitsSplitsUptoCard

/-- THE SECOND FORM's CARD OF 'afterglowlaw02.DigitsRise'. -/
def digitsRiseUptoCard : Claim7 := { stood := { row := digitsRiseUptoRow, standIns := [], harness := (true, "60ebf59fac30b50fa6667040d29618abdbdaadd2361324d07dc68319162f222d"), looks := true }, kinds := [], alts := [], laidByText := true, laidKinds := [.data, .data, .data, .data, .sentinel, .sentinel, .pinned], laidTests := true, laidLooks := .later }
def DigitsRiseUptoCardSaid : Prop := Claim7.holds Tryd.pinned (.plain (OpenSpec.upto digitsRiseSpec)) digitsRiseUptoCard

/-- THE SECOND FORM's CARD OF 'afterglowlaw02.DigitsWide'. -/
def digitsWideUptoCard : Claim7 := { stood := { row := digitsWideUptoRow, standIns := [], harness := (true, "60ebf59fac30b50fa6667040d29618abdbdaadd2361324d07dc68319162f222d"), looks := true }, kinds := [], alts := [], laidByText := true, laidKinds := [.data, .data, .data, .data, .sentinel, .sentinel, .pinned], laidTests := true, laidLooks := .later }
def DigitsWideUptoCardSaid : Prop := Claim7.holds Tryd.pinned (.plain (OpenSpec.upto digitsWideSpec)) digitsWideUptoCard

/-- THE SECOND FORM's CARD OF 'afterglowlaw14.PageKeys'. -/
def pageKeysUptoCard : Claim7 := { stood := { row := pageKeysUptoRow, standIns := [], harness := (true, "60ebf59fac30b50fa6667040d29618abdbdaadd2361324d07dc68319162f222d"), looks := true }, kinds := [], alts := [], laidByText := true, laidKinds := [.data, .data, .data, .data, .sentinel, .sentinel, .pinned], laidTests := true, laidLooks := .later }
def PageKeysUptoCardSaid : Prop := Claim7.holds Tryd.pinned (.plain (OpenSpec.upto pageKeysSpec)) pageKeysUptoCard

/-- THE SECOND FORM's CARD OF 'afterglowlaw14.PageOf'. -/
def pageOfUptoCard : Claim7 := { stood := { row := pageOfUptoRow, standIns := [], harness := (true, "60ebf59fac30b50fa6667040d29618abdbdaadd2361324d07dc68319162f222d"), looks := true }, kinds := [], alts := [], laidByText := true, laidKinds := [.data, .data, .data, .data, .sentinel, .sentinel, .pinned], laidTests := true, laidLooks := .later }
def PageOfUptoCardSaid : Prop := Claim7.holds Tryd.pinned (.plain (OpenSpec.upto pageOfSpec)) pageOfUptoCard

/-- THE SECOND FORM's CARD OF 'afterglowlaw14.PageAll'. -/
def pageAllUptoCard : Claim7 := { stood := { row := pageAllUptoRow, standIns := [], harness := (true, "60ebf59fac30b50fa6667040d29618abdbdaadd2361324d07dc68319162f222d"), looks := true }, kinds := [], alts := [], laidByText := true, laidKinds := [.data, .data, .data, .data, .sentinel, .sentinel, .pinned], laidTests := true, laidLooks := .later }
def PageAllUptoCardSaid : Prop := Claim7.holds Tryd.pinned (.plain (OpenSpec.upto pageAllSpec)) pageAllUptoCard

/-- THE SECOND FORM's CARD OF 'afterglowlaw14.PageSizes'. -/
def pageSizesUptoCard : Claim7 := { stood := { row := pageSizesUptoRow, standIns := [], harness := (true, "60ebf59fac30b50fa6667040d29618abdbdaadd2361324d07dc68319162f222d"), looks := true }, kinds := [], alts := [], laidByText := true, laidKinds := [.data, .data, .data, .data, .sentinel, .sentinel, .pinned], laidTests := true, laidLooks := .later }
def PageSizesUptoCardSaid : Prop := Claim7.holds Tryd.pinned (.plain (OpenSpec.upto pageSizesSpec)) pageSizesUptoCard

/-- THE SECOND FORM's CARD OF 'afterglowlaw14.PageStays'. -/
def pageStaysUptoCard : Claim7 := { stood := { row := pageStaysUptoRow, standIns := [], harness := (true, "60ebf59fac30b50fa6667040d29618abdbdaadd2361324d07dc68319162f222d"), looks := true }, kinds := [], alts := [], laidByText := true, laidKinds := [.data, .data, .data, .data, .sentinel, .sentinel, .pinned], laidTests := true, laidLooks := .later }
def PageStaysUptoCardSaid : Prop := Claim7.holds Tryd.pinned (.plain (OpenSpec.upto pageStaysSpec)) pageStaysUptoCard
end Rows
end Go.Proofs.YtaedhehiifkcbaaDoor
