/-
  DERIVED. GIVEN WITH THE SEED: THE CARDS: each row of YtjcdeeahjkfmoaaGreatDoorRows.lean that lists a variable, with what it lists TIED to the program's text (the seventh form; the later family's looks); each row that meets fmt, with fmt's text TOLD by the authors' own Lean function (tested against real Go, not proved from fmt's source: count such statements apart). THE CARD IS WHAT COUNTS. Prove the row's statement (the work); the ties are given (YtjcdeeahjkfmoaaGreatDoorTie.lean); close each card by the builder's one call (the guide's Derived/Test/ToyasCard.lean, 'card_holds'). Laid BY PROGRAM, IN A SANDBOX (cutbox-door.mjs). By AI agents, Wed Nov 11 2026. No macro, syntax, notation, axiom, sorry.
-/
import Derived.Test.YtjcdeeahjkfmoaaGreatDoorRows
import GoSem.ClaimSeven
namespace Go.Proofs.YtjcdeeahjkfmoaaGreatDoor
namespace Rows

/-- THE TIED CARD OF 'chancerylaw2.FmathRoundingMatches'. -/
def fmathRoundingMatchesCard : Claim7 := { stood := { row := fmathRoundingMatchesRow, standIns := [], harness := (true, "8f7cdc31bdd4487a377443ebe62eb422b7412a310dce87c70242b317be29815a"), looks := true }, kinds := [], alts := [], laidByText := true, laidKinds := [.data, .data, .data, .data, .data, .sentinel, .sentinel, .data, .pinned, .pinned], laidTests := true, laidLooks := .later }
def FmathRoundingMatchesCardSaid : Prop := Claim7.holds Tryz.pinned (.plain (OpenSpec.ofChange fmathRoundingMatchesSpec)) fmathRoundingMatchesCard

/-- THE TIED CARD OF 'chancerylaw2.FmathPowerMatches'. -/
def fmathPowerMatchesCard : Claim7 := { stood := { row := fmathPowerMatchesRow, standIns := [], harness := (true, "8f7cdc31bdd4487a377443ebe62eb422b7412a310dce87c70242b317be29815a"), looks := true }, kinds := [], alts := [], laidByText := true, laidKinds := [.data, .data, .data, .data, .data, .sentinel, .sentinel, .data, .pinned, .pinned], laidTests := true, laidLooks := .later }
def FmathPowerMatchesCardSaid : Prop := Claim7.holds Tryz.pinned (.plain (OpenSpec.ofChange fmathPowerMatchesSpec)) fmathPowerMatchesCard

/-- THE TIED CARD OF 'chancerylaw2.FmathManyMatches'. -/
def fmathManyMatchesCard : Claim7 := { stood := { row := fmathManyMatchesRow, standIns := [], harness := (true, "8f7cdc31bdd4487a377443ebe62eb422b7412a310dce87c70242b317be29815a"), looks := true }, kinds := [], alts := [], laidByText := true, laidKinds := [.data, .data, .data, .data, .data, .sentinel, .sentinel, .data, .pinned, .pinned], laidTests := true, laidLooks := .later }
def FmathManyMatchesCardSaid : Prop := Claim7.holds Tryz.pinned (.plain (OpenSpec.ofChange fmathManyMatchesSpec)) fmathManyMatchesCard

/-- THE TIED CARD OF 'chancerylaw2.FmathCombinationsMatch'. -/
def fmathCombinationsMatchCard : Claim7 := { stood := { row := fmathCombinationsMatchRow, standIns := [], harness := (true, "8f7cdc31bdd4487a377443ebe62eb422b7412a310dce87c70242b317be29815a"), looks := true }, kinds := [], alts := [], laidByText := true, laidKinds := [.data, .data, .data, .data, .data, .sentinel, .sentinel, .data, .pinned, .pinned], laidTests := true, laidLooks := .later }
def FmathCombinationsMatchCardSaid : Prop := Claim7.holds Tryz.pinned (.plain (OpenSpec.ofChange fmathCombinationsMatchSpec)) fmathCombinationsMatchCard

/-- THE TIED CARD OF 'chancerylaw2.FmathSystemsMatch'. -/
def fmathSystemsMatchCard : Claim7 := { stood := { row := fmathSystemsMatchRow, standIns := [], harness := (true, "8f7cdc31bdd4487a377443ebe62eb422b7412a310dce87c70242b317be29815a"), looks := true }, kinds := [], alts := [], laidByText := true, laidKinds := [.data, .data, .data, .data, .data, .sentinel, .sentinel, .data, .pinned, .pinned], laidTests := true, laidLooks := .later }
def FmathSystemsMatchCardSaid : Prop := Claim7.holds Tryz.pinned (.plain (OpenSpec.ofChange fmathSystemsMatchSpec)) fmathSystemsMatchCard

/-- THE TIED CARD OF 'chancerylaw2.FmathArraysMatch'. -/
def fmathArraysMatchCard : Claim7 := { stood := { row := fmathArraysMatchRow, standIns := [], harness := (true, "8f7cdc31bdd4487a377443ebe62eb422b7412a310dce87c70242b317be29815a"), looks := true }, kinds := [], alts := [], laidByText := true, laidKinds := [.data, .data, .data, .data, .data, .sentinel, .sentinel, .data, .pinned, .pinned], laidTests := true, laidLooks := .later }
def FmathArraysMatchCardSaid : Prop := Claim7.holds Tryz.pinned (.plain (OpenSpec.ofChange fmathArraysMatchSpec)) fmathArraysMatchCard

/-- THE TIED CARD OF 'chancerylaw2.FmathDeterminantMatches'. -/
def fmathDeterminantMatchesCard : Claim7 := { stood := { row := fmathDeterminantMatchesRow, standIns := [], harness := (true, "8f7cdc31bdd4487a377443ebe62eb422b7412a310dce87c70242b317be29815a"), looks := true }, kinds := [], alts := [], laidByText := true, laidKinds := [.data, .data, .data, .data, .data, .sentinel, .sentinel, .data, .pinned, .pinned], laidTests := true, laidLooks := .later }
def FmathDeterminantMatchesCardSaid : Prop := Claim7.holds Tryz.pinned (.plain (OpenSpec.ofChange fmathDeterminantMatchesSpec)) fmathDeterminantMatchesCard

/-- THE SECOND FORM's CARD OF 'chancerylaw2.FmathRoundingMatches'. -/
def fmathRoundingMatchesUptoCard : Claim7 := { stood := { row := fmathRoundingMatchesUptoRow, standIns := [], harness := (true, "8f7cdc31bdd4487a377443ebe62eb422b7412a310dce87c70242b317be29815a"), looks := true }, kinds := [], alts := [], laidByText := true, laidKinds := [.data, .data, .data, .data, .data, .sentinel, .sentinel, .data, .pinned, .pinned], laidTests := true, laidLooks := .later }
def FmathRoundingMatchesUptoCardSaid : Prop := Claim7.holds Tryz.pinned (.plain (OpenSpec.upto fmathRoundingMatchesSpec)) fmathRoundingMatchesUptoCard

/-- THE SECOND FORM's CARD OF 'chancerylaw2.FmathPowerMatches'. -/
def fmathPowerMatchesUptoCard : Claim7 := { stood := { row := fmathPowerMatchesUptoRow, standIns := [], harness := (true, "8f7cdc31bdd4487a377443ebe62eb422b7412a310dce87c70242b317be29815a"), looks := true }, kinds := [], alts := [], laidByText := true, laidKinds := [.data, .data, .data, .data, .data, .sentinel, .sentinel, .data, .pinned, .pinned], laidTests := true, laidLooks := .later }
def FmathPowerMatchesUptoCardSaid : Prop := Claim7.holds Tryz.pinned (.plain (OpenSpec.upto fmathPowerMatchesSpec)) fmathPowerMatchesUptoCard

/-- THE SECOND FORM's CARD OF 'chancerylaw2.FmathManyMatches'. -/
def fmathManyMatchesUptoCard : Claim7 := { stood := { row := fmathManyMatchesUptoRow, standIns := [], harness := (true, "8f7cdc31bdd4487a377443ebe62eb422b7412a310dce87c70242b317be29815a"), looks := true }, kinds := [], alts := [], laidByText := true, laidKinds := [.data, .data, .data, .data, .data, .sentinel, .sentinel, .data, .pinned, .pinned], laidTests := true, laidLooks := .later }
def FmathManyMatchesUptoCardSaid : Prop := Claim7.holds Tryz.pinned (.plain (OpenSpec.upto fmathManyMatchesSpec)) fmathManyMatchesUptoCard

/-- THE SECOND FORM's CARD OF 'chancerylaw2.FmathCombinationsMatch'. -/
def fmathCombinationsMatchUptoCard : Claim7 := { stood := { row := fmathCombinationsMatchUptoRow, standIns := [], harness := (true, "8f7cdc31bdd4487a377443ebe62eb422b7412a310dce87c70242b317be29815a"), looks := true }, kinds := [], alts := [], laidByText := true, laidKinds := [.data, .data, .data, .data, .data, .sentinel, .sentinel, .data, .pinned, .pinned], laidTests := true, laidLooks := .later }
def FmathCombinationsMatchUptoCardSaid : Prop := Claim7.holds Tryz.pinned (.plain (OpenSpec.upto fmathCombinationsMatchSpec)) fmathCombinationsMatchUptoCard

/-- THE SECOND FORM's CARD OF 'chancerylaw2.FmathSystemsMatch'. -/
def fmathSystemsMatchUptoCard : Claim7 := { stood := { row := fmathSystemsMatchUptoRow, standIns := [], harness := (true, "8f7cdc31bdd4487a377443ebe62eb422b7412a310dce87c70242b317be29815a"), looks := true }, kinds := [], alts := [], laidByText := true, laidKinds := [.data, .data, .data, .data, .data, .sentinel, .sentinel, .data, .pinned, .pinned], laidTests := true, laidLooks := .later }
def FmathSystemsMatchUptoCardSaid : Prop := Claim7.holds Tryz.pinned (.plain (OpenSpec.upto fmathSystemsMatchSpec)) fmathSystemsMatchUptoCard

/-- THE SECOND FORM's CARD OF 'chancerylaw2.FmathArraysMatch'. -/
def fmathArraysMatchUptoCard : Claim7 := { stood := { row := fmathArraysMatchUptoRow, standIns := [], harness := (true, "8f7cdc31bdd4487a377443ebe62eb422b7412a310dce87c70242b317be29815a"), looks := true }, kinds := [], alts := [], laidByText := true, laidKinds := [.data, .data, .data, .data, .data, .sentinel, .sentinel, .data, .pinned, .pinned], laidTests := true, laidLooks := .later }
def FmathArraysMatchUptoCardSaid : Prop := Claim7.holds Tryz.pinned (.plain (OpenSpec.upto fmathArraysMatchSpec)) fmathArraysMatchUptoCard

/-- THE SECOND FORM's CARD OF 'chancerylaw2.FmathDeterminantMatches'. -/
def fmathDeterminantMatchesUptoCard : Claim7 := { stood := { row := fmathDeterminantMatchesUptoRow, standIns := [], harness := (true, "8f7cdc31bdd4487a377443ebe62eb422b7412a310dce87c70242b317be29815a"), looks := true }, kinds := [], alts := [], laidByText := true, laidKinds := [.data, .data, .data, .data, .data, .sentinel, .sentinel, .data, .pinned, .pinned], laidTests := true, laidLooks := .later }
def FmathDeterminantMatchesUptoCardSaid : Prop := Claim7.holds Tryz.pinned (.plain (OpenSpec.upto fmathDeterminantMatchesSpec)) fmathDeterminantMatchesUptoCard
end Rows
end Go.Proofs.YtjcdeeahjkfmoaaGreatDoor
