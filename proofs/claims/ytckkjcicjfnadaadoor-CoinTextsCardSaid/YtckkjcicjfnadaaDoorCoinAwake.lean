/-
  The law's fixed fact (escutcheonlaw01.awake).
-/
import Derived.Test.YtckkjcicjfnadaaDoorCoinVoc
namespace Go.Proofs.YtckkjcicjfnadaaDoor.Cn
open Go.RowKit

set_option maxHeartbeats 400000 in
set_option maxRecDepth 100000 in
theorem awake01 (w : World) (hg : Base w) : Calls Tryd.prog 6 #[] w fun e w' => e = .returned (.bool true) ∧ Below w.heap.size w w' := by
  have ht : txt sg64 6 [251, 255] = [45, 95, 56] := by decide +kernel
  have HT := Lib.hid (text_any [251, 255] _ _ (hg.below ((Below.refl _ _).alloc (Nat.le_refl _) _)) (bsl_build w [251, 255]) (by decide))
  rw [ht] at HT
  clear ht hg
  go_enter Tryd.func6, Tryd.ntmps6
  go_wp2_with fail
  refine HT.out.mono ?_
  rintro e w1 ⟨rfl, hb⟩
  go_wp2_with fail
  go_ret
  exact ⟨rfl, ((Below.refl _ _).alloc (Nat.le_refl _) _).trans (hb.mono (by simp))⟩
end Go.Proofs.YtckkjcicjfnadaaDoor.Cn
