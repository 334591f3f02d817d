/-
  TopKinds: a witness of its row.
-/
import Derived.Test.YtlgghcffmnofdaaGreatDoorTopLaid
import Derived.Test.YtlgghcffmnofdaaGreatDoorWit
import Derived.Test.YtlgghcffmnofdaaGreatDoorCards
import Derived.WalkKit
import Derived.ProofKit
import Derived.Lib.LaidTab
namespace Go.Proofs.YtlgghcffmnofdaaGreatDoor.topKinds
open Go.ChangeShapes Go.WideShapes Go.ChangeAt Go.RowKit Go.ChangeMaps Go.Proofs.YtlgghcffmnofdaaGreatDoor.Cn Go.Proofs.YtlgghcffmnofdaaGreatDoor.Ke Go.Proofs.YtlgghcffmnofdaaGreatDoor.La

set_option maxRecDepth 100000

noncomputable def zero32 : Value := .agg (cs (List.replicate 32 0)).toArray
def rows : List (Nat × Nat) := [(6, 80), (3, 8), (4, 160), (11, 32), (12, 64), (8, 20), (10, 32), (1, 2), (5, 32), (0, 8), (9, 256)]
theorem laid_run (os : Os) : DataW.laidRun Tryz.prog (((laidWorld Tryz.prog Rows.topKindsRow.laid os).forCall (fun _ _ => 0) ⟨#[], #[zero32, zero32, .string ⟨#[]⟩], []⟩).memory) 8 (Rows.topKindsRow.laid.map (·.1)) = some (Rows.topKindsRow.laid, rowsOf rows) := by kernel_rfl
theorem laid_rows (os : Os) : rowsB (((laidWorld Tryz.prog Rows.topKindsRow.laid os).forCall (fun _ _ => 0) ⟨#[], #[zero32, zero32, .string ⟨#[]⟩], []⟩).memory) rows = true := by kernel_rfl
theorem laid_met (os : Os) : laidMet Tryz.prog Rows.topKindsRow.laid (((laidWorld Tryz.prog Rows.topKindsRow.laid os).forCall (fun _ _ => 0) ⟨#[], #[zero32, zero32, .string ⟨#[]⟩], []⟩).memory) :=
  laidMet_rows 8 rows (laid_run os) (by decide) (laid_rows os)
theorem reads (os : Os) {H : Type} (enc : TypeId × Value → H) : ∃ places, DataW.whole enc Tryz.prog ((laidWorld Tryz.prog Rows.topKindsRow.laid os).forCall (fun _ _ => 0) ⟨#[], #[zero32, zero32, .string ⟨#[]⟩], []⟩).memory Tryz.f7.params.toList Rows.topKindsSpec.vars false #[zero32, zero32, Value.string ⟨#[]⟩].toList 8 = some ([.agg (List.replicate 32 (.lit (.int .u8 0))), .agg (List.replicate 32 (.lit (.int .u8 0))), .lit (.string [])], [], places) :=
  ⟨[], by kernel_rfl⟩

end Go.Proofs.YtlgghcffmnofdaaGreatDoor.topKinds
