/-
  DERIVED. GIVEN WITH THE SEED: THE CARDS: each row of YtnffnkmghghmlaaDoorRows.lean that lists a variable, with what it lists TIED to the program's text (the seventh form; the later family's looks); each row that meets fmt, with fmt's text TOLD by the authors' own Lean function (tested against real Go, not proved from fmt's source: count such statements apart). THE CARD IS WHAT COUNTS. Prove the row's statement (the work); the ties are given (YtnffnkmghghmlaaDoorTie.lean); close each card by the builder's one call (the guide's Derived/Test/ToyasCard.lean, 'card_holds'). Laid BY PROGRAM, IN A SANDBOX (cutbox-door.mjs). By AI agents, Wed Nov 11 2026. No macro, syntax, notation, axiom, sorry.
-/
import Derived.Test.YtnffnkmghghmlaaDoorRows
import GoSem.ClaimSeven
namespace Go.Proofs.YtnffnkmghghmlaaDoor
namespace Rows

/-- THE TIED CARD OF 'supercargolaw27.TokenScans'. -/
def tokenScansCard : Claim7 := { stood := { row := tokenScansRow, standIns := [], harness := (true, "fd959b739b91e299ff09485e9f0cb6f885b469e9c24e96f6d938fadb9d848a6d"), looks := false }, kinds := [], alts := [], laidByText := true, laidKinds := [.widerDeep], laidTests := true, laidLooks := .later }
def TokenScansCardSaid : Prop := Claim7.holds Tryd.pinned (.plain (OpenSpec.ofChange tokenScansSpec)) tokenScansCard

/-- THE TIED CARD OF 'supercargolaw27.TokenBlanks'. -/
def tokenBlanksCard : Claim7 := { stood := { row := tokenBlanksRow, standIns := [], harness := (true, "fd959b739b91e299ff09485e9f0cb6f885b469e9c24e96f6d938fadb9d848a6d"), looks := false }, kinds := [], alts := [], laidByText := true, laidKinds := [.widerDeep], laidTests := true, laidLooks := .later }
def TokenBlanksCardSaid : Prop := Claim7.holds Tryd.pinned (.plain (OpenSpec.ofChange tokenBlanksSpec)) tokenBlanksCard

/-- THE TIED CARD OF 'supercargolaw27.TokenPlaces'. -/
def tokenPlacesCard : Claim7 := { stood := { row := tokenPlacesRow, standIns := [], harness := (true, "fd959b739b91e299ff09485e9f0cb6f885b469e9c24e96f6d938fadb9d848a6d"), looks := false }, kinds := [], alts := [], laidByText := true, laidKinds := [.widerDeep], laidTests := true, laidLooks := .later }
def TokenPlacesCardSaid : Prop := Claim7.holds Tryd.pinned (.plain (OpenSpec.ofChange tokenPlacesSpec)) tokenPlacesCard

/-- THE TIED CARD OF 'supercargolaw27.TokenWords'. -/
def tokenWordsCard : Claim7 := { stood := { row := tokenWordsRow, standIns := [], harness := (true, "fd959b739b91e299ff09485e9f0cb6f885b469e9c24e96f6d938fadb9d848a6d"), looks := false }, kinds := [], alts := [], laidByText := true, laidKinds := [.widerDeep], laidTests := true, laidLooks := .later }
def TokenWordsCardSaid : Prop := Claim7.holds Tryd.pinned (.plain (OpenSpec.ofChange tokenWordsSpec)) tokenWordsCard

/-- THE TIED CARD OF 'supercargolaw27.TokenBack'. -/
def tokenBackCard : Claim7 := { stood := { row := tokenBackRow, standIns := [], harness := (true, "fd959b739b91e299ff09485e9f0cb6f885b469e9c24e96f6d938fadb9d848a6d"), looks := false }, kinds := [], alts := [], laidByText := true, laidKinds := [.widerDeep], laidTests := true, laidLooks := .later }
def TokenBackCardSaid : Prop := Claim7.holds Tryd.pinned (.plain (OpenSpec.ofChange tokenBackSpec)) tokenBackCard

/-- THE TIED CARD OF 'supercargolaw27.TokenQuotes'. -/
def tokenQuotesCard : Claim7 := { stood := { row := tokenQuotesRow, standIns := [], harness := (true, "fd959b739b91e299ff09485e9f0cb6f885b469e9c24e96f6d938fadb9d848a6d"), looks := false }, kinds := [], alts := [], laidByText := true, laidKinds := [.widerDeep], laidTests := true, laidLooks := .later }
def TokenQuotesCardSaid : Prop := Claim7.holds Tryd.pinned (.plain (OpenSpec.ofChange tokenQuotesSpec)) tokenQuotesCard

/-- THE TIED CARD OF 'supercargolaw27.TokenJoins'. -/
def tokenJoinsCard : Claim7 := { stood := { row := tokenJoinsRow, standIns := [], harness := (true, "fd959b739b91e299ff09485e9f0cb6f885b469e9c24e96f6d938fadb9d848a6d"), looks := false }, kinds := [], alts := [], laidByText := true, laidKinds := [.data, .widerDeep], laidTests := true, laidLooks := .later }
def TokenJoinsCardSaid : Prop := Claim7.holds Tryd.pinned (.plain (OpenSpec.ofChange tokenJoinsSpec)) tokenJoinsCard

/-- THE SECOND FORM's CARD OF 'supercargolaw27.TokenScans'. -/
def tokenScansUptoCard : Claim7 := { stood := { row := tokenScansUptoRow, standIns := [], harness := (true, "fd959b739b91e299ff09485e9f0cb6f885b469e9c24e96f6d938fadb9d848a6d"), looks := false }, kinds := [], alts := [], laidByText := true, laidKinds := [.widerDeep], laidTests := true, laidLooks := .later }
def TokenScansUptoCardSaid : Prop := Claim7.holds Tryd.pinned (.plain (OpenSpec.upto tokenScansSpec)) tokenScansUptoCard

/-- THE SECOND FORM's CARD OF 'supercargolaw27.TokenBlanks'. -/
def tokenBlanksUptoCard : Claim7 := { stood := { row := tokenBlanksUptoRow, standIns := [], harness := (true, "fd959b739b91e299ff09485e9f0cb6f885b469e9c24e96f6d938fadb9d848a6d"), looks := false }, kinds := [], alts := [], laidByText := true, laidKinds := [.widerDeep], laidTests := true, laidLooks := .later }
def TokenBlanksUptoCardSaid : Prop := Claim7.holds Tryd.pinned (.plain (OpenSpec.upto tokenBlanksSpec)) tokenBlanksUptoCard

/-- THE SECOND FORM's CARD OF 'supercargolaw27.TokenPlaces'. -/
def tokenPlacesUptoCard : Claim7 := { stood := { row := tokenPlacesUptoRow, standIns := [], harness := (true, "fd959b739b91e299ff09485e9f0cb6f885b469e9c24e96f6d938fadb9d848a6d"), looks := false }, kinds := [], alts := [], laidByText := true, laidKinds := [.widerDeep], laidTests := true, laidLooks := .later }
def TokenPlacesUptoCardSaid : Prop := Claim7.holds Tryd.pinned (.plain (OpenSpec.upto tokenPlacesSpec)) tokenPlacesUptoCard

/-- THE SECOND FORM's CARD OF 'supercargolaw27.TokenWords'. -/
def tokenWordsUptoCard : Claim7 := { stood := { row := tokenWordsUptoRow, standIns := [], harness := (true, "fd959b739b91e299ff09485e9f0cb6f885b469e9c24e96f6d938fadb9d848a6d"), looks := false }, kinds := [], alts := [], laidByText := true, laidKinds := [.widerDeep], laidTests := true, laidLooks := .later }
def TokenWordsUptoCardSaid : Prop := Claim7.holds Tryd.pinned (.plain (OpenSpec.upto tokenWordsSpec)) tokenWordsUptoCard

/-- THE SECOND FORM's CARD OF 'supercargolaw27.TokenBack'. -/
def tokenBackUptoCard : Claim7 := { stood := { row := tokenBackUptoRow, standIns := [], harness := (true, "fd959b739b91e299ff09485e9f0cb6f885b469e9c24e96f6d938fadb9d848a6d"), looks := false }, kinds := [], alts := [], laidByText := true, laidKinds := [.widerDeep], laidTests := true, laidLooks := .later }
def TokenBackUptoCardSaid : Prop := Claim7.holds Tryd.pinned (.plain (OpenSpec.upto tokenBackSpec)) tokenBackUptoCard

/-- THE SECOND FORM's CARD OF 'supercargolaw27.TokenQuotes'. -/
def tokenQuotesUptoCard : Claim7 := { stood := { row := tokenQuotesUptoRow, standIns := [], harness := (true, "fd959b739b91e299ff09485e9f0cb6f885b469e9c24e96f6d938fadb9d848a6d"), looks := false }, kinds := [], alts := [], laidByText := true, laidKinds := [.widerDeep], laidTests := true, laidLooks := .later }
def TokenQuotesUptoCardSaid : Prop := Claim7.holds Tryd.pinned (.plain (OpenSpec.upto tokenQuotesSpec)) tokenQuotesUptoCard

/-- THE SECOND FORM's CARD OF 'supercargolaw27.TokenJoins'. -/
def tokenJoinsUptoCard : Claim7 := { stood := { row := tokenJoinsUptoRow, standIns := [], harness := (true, "fd959b739b91e299ff09485e9f0cb6f885b469e9c24e96f6d938fadb9d848a6d"), looks := false }, kinds := [], alts := [], laidByText := true, laidKinds := [.data, .widerDeep], laidTests := true, laidLooks := .later }
def TokenJoinsUptoCardSaid : Prop := Claim7.holds Tryd.pinned (.plain (OpenSpec.upto tokenJoinsSpec)) tokenJoinsUptoCard
end Rows
end Go.Proofs.YtnffnkmghghmlaaDoor
