/-
  SerialNamed: the closed facts of its row.
-/
import Derived.Test.YtlgghcffmnofdaaGreatDoorCards
import Derived.Test.YtlgghcffmnofdaaGreatDoorTie
import Derived.WalkKit
import Derived.ProofKit
import Derived.OpenShut
import Derived.Deep.DeepHandedRow
namespace Go.Proofs.YtlgghcffmnofdaaGreatDoor.serialNamed
open Go Go.Proofs
set_option maxRecDepth 100000
theorem closed : joinedFacts Tryz.pinned.checked.prog 4 Tryz.f4 (OpenSpec.ofChange Rows.serialNamedSpec).bare Rows.serialNamedRow = true := by kernel_rfl
end Go.Proofs.YtlgghcffmnofdaaGreatDoor.serialNamed
