/-
  TopKinds: the closed facts of its row.
-/
import Derived.Test.YtlgghcffmnofdaaGreatDoorCards
import Derived.Test.YtlgghcffmnofdaaGreatDoorTie
import Derived.WalkKit
import Derived.ProofKit
import Derived.OpenShut
import Derived.Deep.DeepHandedRow
namespace Go.Proofs.YtlgghcffmnofdaaGreatDoor.topKinds
open Go Go.Proofs
set_option maxRecDepth 100000
theorem closed : joinedFacts Tryz.pinned.checked.prog 7 Tryz.f7 (OpenSpec.ofChange Rows.topKindsSpec).bare Rows.topKindsRow = true := by kernel_rfl
end Go.Proofs.YtlgghcffmnofdaaGreatDoor.topKinds
