/-
  The walk of residue.Of at other lengths.
-/
import Derived.Test.YtlgghcffmnofdaaGreatDoorNumGQ
import Derived.Test.YtlgghcffmnofdaaGreatDoorNumIQ

namespace Go.Proofs.YtlgghcffmnofdaaGreatDoor.Nu
open Go Go.RowKit Go.Proofs.YtlgghcffmnofdaaGreatDoor.Cn
set_option maxRecDepth 100000

theorem of_bad (l : List UInt8) (v : Value) (w : World) (hv : Bsl w v l) (hl : l.length ≠ 32) :
    Calls Tryz.prog 103 #[v] w fun e w' => e = .returned (.tuple #[numV 0, .int .i64 3]) ∧ Below w.heap.size w w' := by
  obtain ⟨ad, cap, rfl, hcap, hc⟩ := hv
  clear hc hcap
  have hb : ((l.length : Int) != 32) = true := by simp; omega
  generalize l.length = n at *
  clear hl
  rw [num0]
  go_enter Tryz.func103, Tryz.ntmps103
  go_wp2
  refine bodyPost_ret (by simp [results, Tryz.results103, go_sem]; try rfl) rfl ?_
  exact ⟨rfl, by go_grown⟩
end Go.Proofs.YtlgghcffmnofdaaGreatDoor.Nu
