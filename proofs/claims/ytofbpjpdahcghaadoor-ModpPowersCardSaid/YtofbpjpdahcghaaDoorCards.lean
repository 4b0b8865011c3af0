/-
  DERIVED. GIVEN WITH THE SEED: THE CARDS: each row of YtofbpjpdahcghaaDoorRows.lean that lists a variable, with what it lists TIED to the program's text (the seventh form; the later family's looks); each row that meets fmt, with fmt's text TOLD by the authors' own Lean function (tested against real Go, not proved from fmt's source: count such statements apart). THE CARD IS WHAT COUNTS. Prove the row's statement (the work); the ties are given (YtofbpjpdahcghaaDoorTie.lean); close each card by the builder's one call (the guide's Derived/Test/ToyasCard.lean, 'card_holds'). Laid BY PROGRAM, IN A SANDBOX (cutbox-door.mjs). By AI agents, Wed Nov 11 2026. No macro, syntax, notation, axiom, sorry.
-/
import Derived.Test.YtofbpjpdahcghaaDoorRows
import GoSem.ClaimSeven
namespace Go.Proofs.YtofbpjpdahcghaaDoor
namespace Rows

/-- THE TIED CARD OF 'zigguratlaw14.ModpValues'. -/
def modpValuesCard : Claim7 := { stood := { row := modpValuesRow, standIns := [], harness := (true, "b0357860f3fe43710842eeec39f360e47b77cc453f184e2e635e0f685a5c5450"), looks := false }, kinds := [], alts := [], laidByText := true, laidKinds := [.funcsDeep], laidTests := true, laidLooks := .later }
def ModpValuesCardSaid : Prop := Claim7.holds Tryd.pinned (.plain (OpenSpec.ofChange modpValuesSpec)) modpValuesCard

/-- THE TIED CARD OF 'zigguratlaw14.ModpDivided'. -/
def modpDividedCard : Claim7 := { stood := { row := modpDividedRow, standIns := [], harness := (true, "b0357860f3fe43710842eeec39f360e47b77cc453f184e2e635e0f685a5c5450"), looks := false }, kinds := [], alts := [], laidByText := true, laidKinds := [.funcsDeep], laidTests := true, laidLooks := .later }
def ModpDividedCardSaid : Prop := Claim7.holds Tryd.pinned (.plain (OpenSpec.ofChange modpDividedSpec)) modpDividedCard

/-- THE TIED CARD OF 'zigguratlaw14.ModpGcd'. -/
def modpGcdCard : Claim7 := { stood := { row := modpGcdRow, standIns := [], harness := (true, "b0357860f3fe43710842eeec39f360e47b77cc453f184e2e635e0f685a5c5450"), looks := false }, kinds := [], alts := [], laidByText := true, laidKinds := [.funcsDeep], laidTests := true, laidLooks := .later }
def ModpGcdCardSaid : Prop := Claim7.holds Tryd.pinned (.plain (OpenSpec.ofChange modpGcdSpec)) modpGcdCard

/-- THE TIED CARD OF 'zigguratlaw14.ModpPowers'. -/
def modpPowersCard : Claim7 := { stood := { row := modpPowersRow, standIns := [], harness := (true, "b0357860f3fe43710842eeec39f360e47b77cc453f184e2e635e0f685a5c5450"), looks := false }, kinds := [], alts := [], laidByText := true, laidKinds := [.funcsDeep], laidTests := true, laidLooks := .later }
def ModpPowersCardSaid : Prop := Claim7.holds Tryd.pinned (.plain (OpenSpec.ofChange modpPowersSpec)) modpPowersCard

/-- THE SECOND FORM's CARD OF 'zigguratlaw14.ModpValues'. -/
def modpValuesUptoCard : Claim7 := { stood := { row := modpValuesUptoRow, standIns := [], harness := (true, "b0357860f3fe43710842eeec39f360e47b77cc453f184e2e635e0f685a5c5450"), looks := false }, kinds := [], alts := [], laidByText := true, laidKinds := [.funcsDeep], laidTests := true, laidLooks := .later }
def ModpValuesUptoCardSaid : Prop := Claim7.holds Tryd.pinned (.plain (OpenSpec.upto modpValuesSpec)) modpValuesUptoCard

/-- THE SECOND FORM's CARD OF 'zigguratlaw14.ModpDivided'. -/
def modpDividedUptoCard : Claim7 := { stood := { row := modpDividedUptoRow, standIns := [], harness := (true, "b0357860f3fe43710842eeec39f360e47b77cc453f184e2e635e0f685a5c5450"), looks := false }, kinds := [], alts := [], laidByText := true, laidKinds := [.funcsDeep], laidTests := true, laidLooks := .later }
def ModpDividedUptoCardSaid : Prop := Claim7.holds Tryd.pinned (.plain (OpenSpec.upto modpDividedSpec)) modpDividedUptoCard

/-- THE SECOND FORM's CARD OF 'zigguratlaw14.ModpGcd'. -/
def modpGcdUptoCard : Claim7 := { stood := { row := modpGcdUptoRow, standIns := [], harness := (true, "b0357860f3fe43710842eeec39f360e47b77cc453f184e2e635e0f685a5c5450"), looks := false }, kinds := [], alts := [], laidByText := true, laidKinds := [.funcsDeep], laidTests := true, laidLooks := .later }
def ModpGcdUptoCardSaid : Prop := Claim7.holds Tryd.pinned (.plain (OpenSpec.upto modpGcdSpec)) modpGcdUptoCard

/-- THE SECOND FORM's CARD OF 'zigguratlaw14.ModpPowers'. -/
def modpPowersUptoCard : Claim7 := { stood := { row := modpPowersUptoRow, standIns := [], harness := (true, "b0357860f3fe43710842eeec39f360e47b77cc453f184e2e635e0f685a5c5450"), looks := false }, kinds := [], alts := [], laidByText := true, laidKinds := [.funcsDeep], laidTests := true, laidLooks := .later }
def ModpPowersUptoCardSaid : Prop := Claim7.holds Tryd.pinned (.plain (OpenSpec.upto modpPowersSpec)) modpPowersUptoCard
end Rows
end Go.Proofs.YtofbpjpdahcghaaDoor
