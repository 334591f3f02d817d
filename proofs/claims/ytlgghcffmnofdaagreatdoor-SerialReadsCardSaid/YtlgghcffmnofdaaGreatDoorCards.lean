/-
  DERIVED. GIVEN WITH THE SEED: THE CARDS: each row of YtlgghcffmnofdaaGreatDoorRows.lean that lists a variable, with what it lists TIED to the program's text (the seventh form; the later family's looks); each row that meets fmt, with fmt's text TOLD by the authors' own Lean function (tested against real Go, not proved from fmt's source: count such statements apart). THE CARD IS WHAT COUNTS. Prove the row's statement (the work); the ties are given (YtlgghcffmnofdaaGreatDoorTie.lean); close each card by the builder's one call (the guide's Derived/Test/ToyasCard.lean, 'card_holds'). Laid BY PROGRAM, IN A SANDBOX (cutbox-door.mjs). By AI agents, Wed Nov 11 2026. No macro, syntax, notation, axiom, sorry.
-/
import Derived.Test.YtlgghcffmnofdaaGreatDoorRows
import GoSem.ClaimSeven
namespace Go.Proofs.YtlgghcffmnofdaaGreatDoor
namespace Rows

/-- THE TIED CARD OF 'escutcheonlaw15.SerialReads'. -/
def serialReadsCard : Claim7 := { stood := { row := serialReadsRow, standIns := [], harness := (true, "45f15a1584ea1c7193c2e88dfd3413eb408073ada79c81bf4534a56e79e89de1"), looks := false }, kinds := [], alts := [], laidByText := true, laidKinds := [.data, .data, .data, .data, .wider, .data], laidTests := true, laidLooks := .later }
def SerialReadsCardSaid : Prop := Claim7.holds Tryz.pinned (.plain (OpenSpec.ofChange serialReadsSpec)) serialReadsCard

/-- THE TIED CARD OF 'escutcheonlaw15.SerialNamed'. -/
def serialNamedCard : Claim7 := { stood := { row := serialNamedRow, standIns := [], harness := (true, "45f15a1584ea1c7193c2e88dfd3413eb408073ada79c81bf4534a56e79e89de1"), looks := false }, kinds := [], alts := [], laidByText := true, laidKinds := [.data, .data, .data, .data, .wider, .data], laidTests := true, laidLooks := .later }
def SerialNamedCardSaid : Prop := Claim7.holds Tryz.pinned (.plain (OpenSpec.ofChange serialNamedSpec)) serialNamedCard

/-- THE TIED CARD OF 'escutcheonlaw15.SerialTexts'. -/
def serialTextsCard : Claim7 := { stood := { row := serialTextsRow, standIns := [], harness := (true, "45f15a1584ea1c7193c2e88dfd3413eb408073ada79c81bf4534a56e79e89de1"), looks := false }, kinds := [], alts := [], laidByText := true, laidKinds := [.data, .data, .data, .data, .data, .data, .wider, .data, .data], laidTests := true, laidLooks := .later }
def SerialTextsCardSaid : Prop := Claim7.holds Tryz.pinned (.plain (OpenSpec.ofChange serialTextsSpec)) serialTextsCard

/-- THE TIED CARD OF 'escutcheontop.TopOnly'. -/
def topOnlyCard : Claim7 := { stood := { row := topOnlyRow, standIns := [], harness := (true, "45f15a1584ea1c7193c2e88dfd3413eb408073ada79c81bf4534a56e79e89de1"), looks := false }, kinds := [], alts := [], laidByText := true, laidKinds := [.data, .data, .data, .data, .data, .data, .data, .wider, .data, .data, .pinned], laidTests := true, laidLooks := .later }
def TopOnlyCardSaid : Prop := Claim7.holds Tryz.pinned (.plain (OpenSpec.ofChange topOnlySpec)) topOnlyCard

/-- THE TIED CARD OF 'escutcheontop.TopKinds'. -/
def topKindsCard : Claim7 := { stood := { row := topKindsRow, standIns := [], harness := (true, "45f15a1584ea1c7193c2e88dfd3413eb408073ada79c81bf4534a56e79e89de1"), looks := false }, kinds := [], alts := [], laidByText := true, laidKinds := [.data, .data, .data, .data, .data, .data, .data, .wider, .data, .data, .pinned], laidTests := true, laidLooks := .later }
def TopKindsCardSaid : Prop := Claim7.holds Tryz.pinned (.plain (OpenSpec.ofChange topKindsSpec)) topKindsCard

/-- THE TIED CARD OF 'escutcheonlaw16.WrapEnds'. -/
def wrapEndsCard : Claim7 := { stood := { row := wrapEndsRow, standIns := [], harness := (true, "45f15a1584ea1c7193c2e88dfd3413eb408073ada79c81bf4534a56e79e89de1"), looks := false }, kinds := [], alts := [], laidByText := true, laidKinds := [.data, .data, .data, .data, .data, .data, .wider, .data], laidTests := true, laidLooks := .later }
def WrapEndsCardSaid : Prop := Claim7.holds Tryz.pinned (.plain (OpenSpec.ofChange wrapEndsSpec)) wrapEndsCard

/-- THE TIED CARD OF 'escutcheonlaw16.WrapWraps'. -/
def wrapWrapsCard : Claim7 := { stood := { row := wrapWrapsRow, standIns := [], harness := (true, "45f15a1584ea1c7193c2e88dfd3413eb408073ada79c81bf4534a56e79e89de1"), looks := false }, kinds := [], alts := [], laidByText := true, laidKinds := [.data, .data, .data, .data, .data, .data, .wider, .data], laidTests := true, laidLooks := .later }
def WrapWrapsCardSaid : Prop := Claim7.holds Tryz.pinned (.plain (OpenSpec.ofChange wrapWrapsSpec)) wrapWrapsCard

/-- THE TIED CARD OF 'escutcheonlaw16.WrapUnwraps'. -/
def wrapUnwrapsCard : Claim7 := { stood := { row := wrapUnwrapsRow, standIns := [], harness := (true, "45f15a1584ea1c7193c2e88dfd3413eb408073ada79c81bf4534a56e79e89de1"), looks := false }, kinds := [], alts := [], laidByText := true, laidKinds := [.data, .data, .data, .data, .data, .data, .wider, .data], laidTests := true, laidLooks := .later }
def WrapUnwrapsCardSaid : Prop := Claim7.holds Tryz.pinned (.plain (OpenSpec.ofChange wrapUnwrapsSpec)) wrapUnwrapsCard

/-- THE SECOND FORM's CARD OF 'escutcheonlaw15.SerialReads'. -/
def serialReadsUptoCard : Claim7 := { stood := { row := serialReadsUptoRow, standIns := [], harness := (true, "45f15a1584ea1c7193c2e88dfd3413eb408073ada79c81bf4534a56e79e89de1"), looks := false }, kinds := [], alts := [], laidByText := true, laidKinds := [.data, .data, .data, .data, .wider, .data], laidTests := true, laidLooks := .later }
def SerialReadsUptoCardSaid : Prop := Claim7.holds Tryz.pinned (.plain (OpenSpec.upto serialReadsSpec)) serialReadsUptoCard

/-- THE SECOND FORM's CARD OF 'escutcheonlaw15.SerialNamed'. -/
def serialNamedUptoCard : Claim7 := { stood := { row := serialNamedUptoRow, standIns := [], harness := (true, "45f15a1584ea1c7193c2e88dfd3413eb408073ada79c81bf4534a56e79e89de1"), looks := false }, kinds := [], alts := [], laidByText := true, laidKinds := [.data, .data, .data, .data, .wider, .data], laidTests := true, laidLooks := .later }
def SerialNamedUptoCardSaid : Prop := Claim7.holds Tryz.pinned (.plain (OpenSpec.upto serialNamedSpec)) serialNamedUptoCard

/-- THE SECOND FORM's CARD OF 'escutcheonlaw15.SerialTexts'. -/
def serialTextsUptoCard : Claim7 := { stood := { row := serialTextsUptoRow, standIns := [], harness := (true, "45f15a1584ea1c7193c2e88dfd3413eb408073ada79c81bf4534a56e79e89de1"), looks := false }, kinds := [], alts := [], laidByText := true, laidKinds := [.data, .data, .data, .data, .data, .data, .wider, .data, .data], laidTests := true, laidLooks := .later }
def SerialTextsUptoCardSaid : Prop := Claim7.holds Tryz.pinned (.plain (OpenSpec.upto serialTextsSpec)) serialTextsUptoCard

/-- THE SECOND FORM's CARD OF 'escutcheontop.TopOnly'. -/
def topOnlyUptoCard : Claim7 := { stood := { row := topOnlyUptoRow, standIns := [], harness := (true, "45f15a1584ea1c7193c2e88dfd3413eb408073ada79c81bf4534a56e79e89de1"), looks := false }, kinds := [], alts := [], laidByText := true, laidKinds := [.data, .data, .data, .data, .data, .data, .data, .wider, .data, .data, .pinned], laidTests := true, laidLooks := .later }
def TopOnlyUptoCardSaid : Prop := Claim7.holds Tryz.pinned (.plain (OpenSpec.upto topOnlySpec)) topOnlyUptoCard

/-- THE SECOND FORM's CARD OF 'escutcheontop.TopKinds'. -/
def topKindsUptoCard : Claim7 := { stood := { row := topKindsUptoRow, standIns := [], harness := (true, "45f15a1584ea1c7193c2e88dfd3413eb408073ada79c81bf4534a56e79e89de1"), looks := false }, kinds := [], alts := [], laidByText := true, laidKinds := [.data, .data, .data, .data, .data, .data, .data, .wider, .data, .data, .pinned], laidTests := true, laidLooks := .later }
def TopKindsUptoCardSaid : Prop := Claim7.holds Tryz.pinned (.plain (OpenSpec.upto topKindsSpec)) topKindsUptoCard

/-- THE SECOND FORM's CARD OF 'escutcheonlaw16.WrapEnds'. -/
def wrapEndsUptoCard : Claim7 := { stood := { row := wrapEndsUptoRow, standIns := [], harness := (true, "45f15a1584ea1c7193c2e88dfd3413eb408073ada79c81bf4534a56e79e89de1"), looks := false }, kinds := [], alts := [], laidByText := true, laidKinds := [.data, .data, .data, .data, .data, .data, .wider, .data], laidTests := true, laidLooks := .later }
def WrapEndsUptoCardSaid : Prop := Claim7.holds Tryz.pinned (.plain (OpenSpec.upto wrapEndsSpec)) wrapEndsUptoCard

/-- THE SECOND FORM's CARD OF 'escutcheonlaw16.WrapWraps'. -/
def wrapWrapsUptoCard : Claim7 := { stood := { row := wrapWrapsUptoRow, standIns := [], harness := (true, "45f15a1584ea1c7193c2e88dfd3413eb408073ada79c81bf4534a56e79e89de1"), looks := false }, kinds := [], alts := [], laidByText := true, laidKinds := [.data, .data, .data, .data, .data, .data, .wider, .data], laidTests := true, laidLooks := .later }
def WrapWrapsUptoCardSaid : Prop := Claim7.holds Tryz.pinned (.plain (OpenSpec.upto wrapWrapsSpec)) wrapWrapsUptoCard

/-- THE SECOND FORM's CARD OF 'escutcheonlaw16.WrapUnwraps'. -/
def wrapUnwrapsUptoCard : Claim7 := { stood := { row := wrapUnwrapsUptoRow, standIns := [], harness := (true, "45f15a1584ea1c7193c2e88dfd3413eb408073ada79c81bf4534a56e79e89de1"), looks := false }, kinds := [], alts := [], laidByText := true, laidKinds := [.data, .data, .data, .data, .data, .data, .wider, .data], laidTests := true, laidLooks := .later }
def WrapUnwrapsUptoCardSaid : Prop := Claim7.holds Tryz.pinned (.plain (OpenSpec.upto wrapUnwrapsSpec)) wrapUnwrapsUptoCard
end Rows
end Go.Proofs.YtlgghcffmnofdaaGreatDoor
