/-
  SerialReads: the closed facts of its row.
-/
import Derived.Test.YtlgghcffmnofdaaGreatDoorCards
import Derived.Test.YtlgghcffmnofdaaGreatDoorTie
import Derived.WalkKit
import Derived.ProofKit
import Derived.OpenShut
import Derived.Deep.DeepHandedRow
namespace Go.Proofs.YtlgghcffmnofdaaGreatDoor.serialReads
open Go Go.Proofs
set_option maxRecDepth 100000
theorem closed : joinedFacts Tryz.pinned.checked.prog 3 Tryz.f3 (OpenSpec.ofChange Rows.serialReadsSpec).bare Rows.serialReadsRow = true := by kernel_rfl
end Go.Proofs.YtlgghcffmnofdaaGreatDoor.serialReads
