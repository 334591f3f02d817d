/-
  DERIVED. GIVEN WITH THE SEED: THE CARDS: each row of YtckkjcicjfnadaaDoorRows.lean that lists a variable, with what it lists TIED to the program's text (the seventh form; the later family's looks); each row that meets fmt, with fmt's text TOLD by the authors' own Lean function (tested against real Go, not proved from fmt's source: count such statements apart). THE CARD IS WHAT COUNTS. Prove the row's statement (the work); the ties are given (YtckkjcicjfnadaaDoorTie.lean); close each card by the builder's one call (the guide's Derived/Test/ToyasCard.lean, 'card_holds'). Laid BY PROGRAM, IN A SANDBOX (cutbox-door.mjs). By AI agents, Wed Nov 11 2026. No macro, syntax, notation, axiom, sorry.
-/
import Derived.Test.YtckkjcicjfnadaaDoorRows
import GoSem.ClaimSeven
namespace Go.Proofs.YtckkjcicjfnadaaDoor
namespace Rows

/-- THE TIED CARD OF 'escutcheonlaw01.CoinReads'. -/
def coinReadsCard : Claim7 := { stood := { row := coinReadsRow, standIns := [], harness := (true, "8210816387d458ebc5f60ec5e907eaa57401140cfe1aa5e8ec9461ade91a11bf"), looks := false }, kinds := [], alts := [], laidByText := true, laidKinds := [.wider], laidTests := true, laidLooks := .later }
def CoinReadsCardSaid : Prop := Claim7.holds Tryd.pinned (.plain (OpenSpec.ofChange coinReadsSpec)) coinReadsCard

/-- THE TIED CARD OF 'escutcheonlaw01.CoinHexes'. -/
def coinHexesCard : Claim7 := { stood := { row := coinHexesRow, standIns := [], harness := (true, "8210816387d458ebc5f60ec5e907eaa57401140cfe1aa5e8ec9461ade91a11bf"), looks := false }, kinds := [], alts := [], laidByText := true, laidKinds := [.wider, .wider], laidTests := true, laidLooks := .later }
def CoinHexesCardSaid : Prop := Claim7.holds Tryd.pinned (.plain (OpenSpec.ofChange coinHexesSpec)) coinHexesCard

/-- THE TIED CARD OF 'escutcheonlaw01.CoinTexts'. -/
def coinTextsCard : Claim7 := { stood := { row := coinTextsRow, standIns := [], harness := (true, "8210816387d458ebc5f60ec5e907eaa57401140cfe1aa5e8ec9461ade91a11bf"), looks := false }, kinds := [], alts := [], laidByText := true, laidKinds := [.wider, .wider], laidTests := true, laidLooks := .later }
def CoinTextsCardSaid : Prop := Claim7.holds Tryd.pinned (.plain (OpenSpec.ofChange coinTextsSpec)) coinTextsCard

/-- THE SECOND FORM's CARD OF 'escutcheonlaw01.CoinReads'. -/
def coinReadsUptoCard : Claim7 := { stood := { row := coinReadsUptoRow, standIns := [], harness := (true, "8210816387d458ebc5f60ec5e907eaa57401140cfe1aa5e8ec9461ade91a11bf"), looks := false }, kinds := [], alts := [], laidByText := true, laidKinds := [.wider], laidTests := true, laidLooks := .later }
def CoinReadsUptoCardSaid : Prop := Claim7.holds Tryd.pinned (.plain (OpenSpec.upto coinReadsSpec)) coinReadsUptoCard

/-- THE SECOND FORM's CARD OF 'escutcheonlaw01.CoinHexes'. -/
def coinHexesUptoCard : Claim7 := { stood := { row := coinHexesUptoRow, standIns := [], harness := (true, "8210816387d458ebc5f60ec5e907eaa57401140cfe1aa5e8ec9461ade91a11bf"), looks := false }, kinds := [], alts := [], laidByText := true, laidKinds := [.wider, .wider], laidTests := true, laidLooks := .later }
def CoinHexesUptoCardSaid : Prop := Claim7.holds Tryd.pinned (.plain (OpenSpec.upto coinHexesSpec)) coinHexesUptoCard

/-- THE SECOND FORM's CARD OF 'escutcheonlaw01.CoinTexts'. -/
def coinTextsUptoCard : Claim7 := { stood := { row := coinTextsUptoRow, standIns := [], harness := (true, "8210816387d458ebc5f60ec5e907eaa57401140cfe1aa5e8ec9461ade91a11bf"), looks := false }, kinds := [], alts := [], laidByText := true, laidKinds := [.wider, .wider], laidTests := true, laidLooks := .later }
def CoinTextsUptoCardSaid : Prop := Claim7.holds Tryd.pinned (.plain (OpenSpec.upto coinTextsSpec)) coinTextsUptoCard
end Rows
end Go.Proofs.YtckkjcicjfnadaaDoor
