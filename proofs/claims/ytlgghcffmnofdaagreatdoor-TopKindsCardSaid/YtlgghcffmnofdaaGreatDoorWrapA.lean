/-
  wrap.kinds, (wrap.paper).head.
-/
import Derived.Test.YtlgghcffmnofdaaGreatDoorLocalA
import Derived.Laws.Append
namespace Go.Proofs.YtlgghcffmnofdaaGreatDoor.Ke
open Go Go.RowKit Go.Proofs.YtlgghcffmnofdaaGreatDoor.Cn
set_option maxRecDepth 100000

def lwBytes : ByteArray := ⟨#[108, 111, 99, 97, 108, 45, 119, 114, 97, 112, 46, 112, 105, 101, 46]⟩
def swBytes : ByteArray := ⟨#[115, 101, 99, 114, 101, 116, 45, 119, 114, 97, 112, 46, 112, 105, 101, 46]⟩

theorem kinds_3 (w : World) : Calls Tryz.prog 71 #[.int .i64 3] w fun e w' =>
    ∃ b, e = .returned (.slice (some ⟨b, 0, none⟩) 1 1) ∧ w.heap.size ≤ b ∧ w'.heap[b]? = some (.cells #[.int .i64 1, .string lwBytes, .int .i64 32] 137) ∧ Below w.heap.size w w' := by
  go_enter Tryz.func71, Tryz.ntmps71
  go_wp2
  go_returns
  exact ⟨_, rfl, Nat.le_refl _, heap_alloc_new _ _, by go_grown⟩

theorem kinds_4 (w : World) : Calls Tryz.prog 71 #[.int .i64 4] w fun e w' =>
    ∃ b cap rest, e = .returned (.slice (some ⟨b, 0, none⟩) 2 cap) ∧ w.heap.size ≤ b ∧ w'.heap[b]? = some (.cells (#[.int .i64 1, .string lwBytes, .int .i64 32, .int .i64 2, .string swBytes, .int .i64 64] ++ rest) 137) ∧ Below w.heap.size w w' := by
  go_enter Tryz.func71, Tryz.ntmps71
  go_wp2_with fail
  go_returns
  refine ⟨w.heap.size + 1 + 1, _, Builtin.zeroCells #[.int .i64 0, .string ⟨#[]⟩, .int .i64 0] ((Question.appendCap 2 1 137).cut (w.tape w.drawn (Question.appendCap 2 1 137)) - 2), rfl, by omega, ?_, by go_grown⟩
  have h := heap_alloc_new ((w.alloc (Obj.cells #[Value.int IntKind.i64 1, Value.string lwBytes, Value.int IntKind.i64 32] 137)).alloc (Obj.cells #[Value.int IntKind.i64 2, Value.string swBytes, Value.int IntKind.i64 64] 137)) (Obj.cells (#[Value.int IntKind.i64 1, Value.string lwBytes, Value.int IntKind.i64 32] ++ (#[Value.int IntKind.i64 2, Value.string swBytes, Value.int IntKind.i64 64] ++ Builtin.zeroCells #[.int .i64 0, .string ⟨#[]⟩, .int .i64 0] ((Question.appendCap 2 1 137).cut (w.tape w.drawn (Question.appendCap 2 1 137)) - 2))) 137)
  rw [show ((w.alloc (Obj.cells #[Value.int IntKind.i64 1, Value.string lwBytes, Value.int IntKind.i64 32] 137)).alloc (Obj.cells #[Value.int IntKind.i64 2, Value.string swBytes, Value.int IntKind.i64 64] 137)).heap.size = w.heap.size + 1 + 1 by simp] at h
  refine h.trans ?_
  rw [← Array.append_assoc]
  rfl
end Go.Proofs.YtlgghcffmnofdaaGreatDoor.Ke
