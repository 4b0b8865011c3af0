/-
  DERIVED. GIVEN WITH THE SEED: THE CARDS: each row of YtkeegknadegaaaaDoorRows.lean that lists a variable, with what it lists TIED to the program's text (the seventh form; the later family's looks); each row that meets fmt, with fmt's text TOLD by the authors' own Lean function (tested against real Go, not proved from fmt's source: count such statements apart). THE CARD IS WHAT COUNTS. Prove the row's statement (the work); the ties are given (YtkeegknadegaaaaDoorTie.lean); close each card by the builder's one call (the guide's Derived/Test/ToyasCard.lean, 'card_holds'). Laid BY PROGRAM, IN A SANDBOX (cutbox-door.mjs). By AI agents, Wed Nov 11 2026. No macro, syntax, notation, axiom, sorry.
-/
import Derived.Test.YtkeegknadegaaaaDoorRows
import GoSem.ClaimSeven
namespace Go.Proofs.YtkeegknadegaaaaDoor
namespace Rows

/-- THE TIED CARD OF 'zigguratlaw30.StoreTells'. -/
def storeTellsCard : Claim7 := { stood := { row := storeTellsRow, standIns := [], harness := (true, "34bdef4e9bffb480d87468241b17d7559861034fec9fdb17c8b41cbaa0e36c65"), looks := true }, kinds := [], alts := [], laidByText := true, laidKinds := [.handle], laidTests := true, laidLooks := .later }
def StoreTellsCardSaid : Prop := Claim7.holds Tryd.pinned (.plain (OpenSpec.ofChange storeTellsSpec)) storeTellsCard

/-- THE TIED CARD OF 'zigguratlaw30.StoreBack'. -/
def storeBackCard : Claim7 := { stood := { row := storeBackRow, standIns := [], harness := (true, "34bdef4e9bffb480d87468241b17d7559861034fec9fdb17c8b41cbaa0e36c65"), looks := true }, kinds := [], alts := [], laidByText := true, laidKinds := [.handle], laidTests := true, laidLooks := .later }
def StoreBackCardSaid : Prop := Claim7.holds Tryd.pinned (.plain (OpenSpec.ofChange storeBackSpec)) storeBackCard

/-- THE TIED CARD OF 'zigguratlaw30.StoreCut'. -/
def storeCutCard : Claim7 := { stood := { row := storeCutRow, standIns := [], harness := (true, "34bdef4e9bffb480d87468241b17d7559861034fec9fdb17c8b41cbaa0e36c65"), looks := true }, kinds := [], alts := [], laidByText := true, laidKinds := [.handle], laidTests := true, laidLooks := .later }
def StoreCutCardSaid : Prop := Claim7.holds Tryd.pinned (.plain (OpenSpec.ofChange storeCutSpec)) storeCutCard

/-- THE TIED CARD OF 'zigguratlaw30.StoreFlipped'. -/
def storeFlippedCard : Claim7 := { stood := { row := storeFlippedRow, standIns := [], harness := (true, "34bdef4e9bffb480d87468241b17d7559861034fec9fdb17c8b41cbaa0e36c65"), looks := true }, kinds := [], alts := [], laidByText := true, laidKinds := [.handle], laidTests := true, laidLooks := .later }
def StoreFlippedCardSaid : Prop := Claim7.holds Tryd.pinned (.plain (OpenSpec.ofChange storeFlippedSpec)) storeFlippedCard

/-- THE TIED CARD OF 'zigguratlaw30.StoreCanonical'. -/
def storeCanonicalCard : Claim7 := { stood := { row := storeCanonicalRow, standIns := [], harness := (true, "34bdef4e9bffb480d87468241b17d7559861034fec9fdb17c8b41cbaa0e36c65"), looks := true }, kinds := [], alts := [], laidByText := true, laidKinds := [.handle], laidTests := true, laidLooks := .later }
def StoreCanonicalCardSaid : Prop := Claim7.holds Tryd.pinned (.plain (OpenSpec.ofChange storeCanonicalSpec)) storeCanonicalCard

/-- THE TIED CARD OF 'zigguratlaw30.StoreMended'. -/
def storeMendedCard : Claim7 := { stood := { row := storeMendedRow, standIns := [], harness := (true, "34bdef4e9bffb480d87468241b17d7559861034fec9fdb17c8b41cbaa0e36c65"), looks := true }, kinds := [], alts := [], laidByText := true, laidKinds := [.handle], laidTests := true, laidLooks := .later }
def StoreMendedCardSaid : Prop := Claim7.holds Tryd.pinned (.plain (OpenSpec.ofChange storeMendedSpec)) storeMendedCard

/-- THE TIED CARD OF 'zigguratlaw30.StoreJoined'. -/
def storeJoinedCard : Claim7 := { stood := { row := storeJoinedRow, standIns := [], harness := (true, "34bdef4e9bffb480d87468241b17d7559861034fec9fdb17c8b41cbaa0e36c65"), looks := true }, kinds := [], alts := [], laidByText := true, laidKinds := [.handle], laidTests := true, laidLooks := .later }
def StoreJoinedCardSaid : Prop := Claim7.holds Tryd.pinned (.plain (OpenSpec.ofChange storeJoinedSpec)) storeJoinedCard

/-- THE TIED CARD OF 'zigguratlaw30.StoreSums'. -/
def storeSumsCard : Claim7 := { stood := { row := storeSumsRow, standIns := [], harness := (true, "34bdef4e9bffb480d87468241b17d7559861034fec9fdb17c8b41cbaa0e36c65"), looks := true }, kinds := [], alts := [], laidByText := true, laidKinds := [.handle], laidTests := true, laidLooks := .later }
def StoreSumsCardSaid : Prop := Claim7.holds Tryd.pinned (.plain (OpenSpec.ofChange storeSumsSpec)) storeSumsCard

/-- THE SECOND FORM's CARD OF 'zigguratlaw30.StoreTells'. -/
def storeTellsUptoCard : Claim7 := { stood := { row := storeTellsUptoRow, standIns := [], harness := (true, "34bdef4e9bffb480d87468241b17d7559861034fec9fdb17c8b41cbaa0e36c65"), looks := true }, kinds := [], alts := [], laidByText := true, laidKinds := [.handle], laidTests := true, laidLooks := .later }
def StoreTellsUptoCardSaid : Prop := Claim7.holds Tryd.pinned (.plain (OpenSpec.upto storeTellsSpec)) storeTellsUptoCard

/-- THE SECOND FORM's CARD OF 'zigguratlaw30.StoreBack'. -/
def storeBackUptoCard : Claim7 := { stood := { row := storeBackUptoRow, standIns := [], harness := (true, "34bdef4e9bffb480d87468241b17d7559861034fec9fdb17c8b41cbaa0e36c65"), looks := true }, kinds := [], alts := [], laidByText := true, laidKinds := [.handle], laidTests := true, laidLooks := .later }
def StoreBackUptoCardSaid : Prop := Claim7.holds Tryd.pinned (.plain (OpenSpec.upto storeBackSpec)) storeBackUptoCard

/-- THE SECOND FORM's CARD OF 'zigguratlaw30.StoreCut'. -/
def storeCutUptoCard : Claim7 := { stood := { row := storeCutUptoRow, standIns := [], harness := (true, "34bdef4e9bffb480d87468241b17d7559861034fec9fdb17c8b41cbaa0e36c65"), looks := true }, kinds := [], alts := [], laidByText := true, laidKinds := [.handle], laidTests := true, laidLooks := .later }
def StoreCutUptoCardSaid : Prop := Claim7.holds Tryd.pinned (.plain (OpenSpec.upto storeCutSpec)) storeCutUptoCard

/-- THE SECOND FORM's CARD OF 'zigguratlaw30.StoreFlipped'. -/
def storeFlippedUptoCard : Claim7 := { stood := { row := storeFlippedUptoRow, standIns := [], harness := (true, "34bdef4e9bffb480d87468241b17d7559861034fec9fdb17c8b41cbaa0e36c65"), looks := true }, kinds := [], alts := [], laidByText := true, laidKinds := [.handle], laidTests := true, laidLooks := .later }
def StoreFlippedUptoCardSaid : Prop := Claim7.holds Tryd.pinned (.plain (OpenSpec.upto storeFlippedSpec)) storeFlippedUptoCard

/-- THE SECOND FORM's CARD OF 'zigguratlaw30.StoreCanonical'. -/
def storeCanonicalUptoCard : Claim7 := { stood := { row := storeCanonicalUptoRow, standIns := [], harness := (true, "34bdef4e9bffb480d87468241b17d7559861034fec9fdb17c8b41cbaa0e36c65"), looks := true }, kinds := [], alts := [], laidByText := true, laidKinds := [.handle], laidTests := true, laidLooks := .later }
def StoreCanonicalUptoCardSaid : Prop := Claim7.holds Tryd.pinned (.plain (OpenSpec.upto storeCanonicalSpec)) storeCanonicalUptoCard

/-- THE SECOND FORM's CARD OF 'zigguratlaw30.StoreMended'. -/
def storeMendedUptoCard : Claim7 := { stood := { row := storeMendedUptoRow, standIns := [], harness := (true, "34bdef4e9bffb480d87468241b17d7559861034fec9fdb17c8b41cbaa0e36c65"), looks := true }, kinds := [], alts := [], laidByText := true, laidKinds := [.handle], laidTests := true, laidLooks := .later }
def StoreMendedUptoCardSaid : Prop := Claim7.holds Tryd.pinned (.plain (OpenSpec.upto storeMendedSpec)) storeMendedUptoCard

/-- THE SECOND FORM's CARD OF 'zigguratlaw30.StoreJoined'. -/
def storeJoinedUptoCard : Claim7 := { stood := { row := storeJoinedUptoRow, standIns := [], harness := (true, "34bdef4e9bffb480d87468241b17d7559861034fec9fdb17c8b41cbaa0e36c65"), looks := true }, kinds := [], alts := [], laidByText := true, laidKinds := [.handle], laidTests := true, laidLooks := .later }
def StoreJoinedUptoCardSaid : Prop := Claim7.holds Tryd.pinned (.plain (OpenSpec.upto storeJoinedSpec)) storeJoinedUptoCard

/-- THE SECOND FORM's CARD OF 'zigguratlaw30.StoreSums'. -/
def storeSumsUptoCard : Claim7 := { stood := { row := storeSumsUptoRow, standIns := [], harness := (true, "34bdef4e9bffb480d87468241b17d7559861034fec9fdb17c8b41cbaa0e36c65"), looks := true }, kinds := [], alts := [], laidByText := true, laidKinds := [.handle], laidTests := true, laidLooks := .later }
def StoreSumsUptoCardSaid : Prop := Claim7.holds Tryd.pinned (.plain (OpenSpec.upto storeSumsSpec)) storeSumsUptoCard
end Rows
end Go.Proofs.YtkeegknadegaaaaDoor
