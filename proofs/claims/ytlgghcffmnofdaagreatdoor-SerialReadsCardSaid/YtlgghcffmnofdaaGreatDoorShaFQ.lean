/-
  The walks of sha: New512, New384.
-/
import Derived.Test.YtlgghcffmnofdaaGreatDoorShaCQ

namespace Go.Proofs.YtlgghcffmnofdaaGreatDoor.Sh
open Go Go.RowKit Go.Proofs.YtlgghcffmnofdaaGreatDoor.Cn Go.Proofs.YtlgghcffmnofdaaGreatDoor.Nu
set_option maxRecDepth 100000

theorem new512_any (st : Nat → Nat) (w : World) (hs : Wd w 2 8 st) :
    Calls Tryz.prog 184 #[] w fun e w' => e = .returned (.pointer (some ⟨w.heap.size, 0, none⟩)) ∧ Below w.heap.size w w' ∧ w'.heap[w.heap.size]? = some (.cells (hrow st (.slice none 0 0) (.int .i64 0) (.int .i64 64)) 229 (0, 0)) := by
  have s0 := hs.at_ 0 (by omega)
  have s1 := hs.at_ 1 (by omega)
  have s2 := hs.at_ 2 (by omega)
  have s3 := hs.at_ 3 (by omega)
  have s4 := hs.at_ 4 (by omega)
  have s5 := hs.at_ 5 (by omega)
  have s6 := hs.at_ 6 (by omega)
  have s7 := hs.at_ 7 (by omega)
  clear hs
  go_enter Tryz.func184, Tryz.ntmps184
  go_wp2
  refine bodyPost_ret (by simp [results, Tryz.results184, go_sem]; try rfl) rfl ?_
  exact ⟨rfl, (Below.refl _ _).alloc (Nat.le_refl _) _, heap_alloc_new _ _⟩
theorem new384_any (st : Nat → Nat) (w : World) (hs : Wd w 3 8 st) :
    Calls Tryz.prog 91 #[] w fun e w' => e = .returned (.pointer (some ⟨w.heap.size, 0, none⟩)) ∧ Below w.heap.size w w' ∧ w'.heap[w.heap.size]? = some (.cells (hrow st (.slice none 0 0) (.int .i64 0) (.int .i64 48)) 229 (0, 0)) := by
  have s0 := hs.at_ 0 (by omega)
  have s1 := hs.at_ 1 (by omega)
  have s2 := hs.at_ 2 (by omega)
  have s3 := hs.at_ 3 (by omega)
  have s4 := hs.at_ 4 (by omega)
  have s5 := hs.at_ 5 (by omega)
  have s6 := hs.at_ 6 (by omega)
  have s7 := hs.at_ 7 (by omega)
  clear hs
  go_enter Tryz.func91, Tryz.ntmps91
  go_wp2
  refine bodyPost_ret (by simp [results, Tryz.results91, go_sem]; try rfl) rfl ?_
  exact ⟨rfl, (Below.refl _ _).alloc (Nat.le_refl _) _, heap_alloc_new _ _⟩
end Go.Proofs.YtlgghcffmnofdaaGreatDoor.Sh
