/-
  A ring without keys.
-/
import Derived.Test.YtlgghcffmnofdaaGreatDoorLocalA
namespace Go.Proofs.YtlgghcffmnofdaaGreatDoor.Ke
open Go Go.RowKit Go.Proofs.YtlgghcffmnofdaaGreatDoor.Cn
set_option maxRecDepth 100000

theorem ringNew (w : World) : Calls Tryz.prog 55 #[.slice none 0 0] w fun e w' =>
    ∃ c, e = .returned (.tuple #[.pointer (some ⟨c, 0, none⟩), .int .i64 0]) ∧ w'.cell? ⟨c, 0, none⟩ = some (.slice none 0 0) ∧ Below w.heap.size w w' := by
  go_enter Tryz.func55, Tryz.ntmps55
  go_wp2_with fail
  go_loopw [13] (fun i wr => i = .int .i64 0 ∧ wr = w.alloc (.cells #[.slice none 0 0] 177)) (fun _ _ => 0)
  case atStart => exact ⟨rfl, rfl⟩
  case round =>
    obtain ⟨rfl, rfl⟩ := hrel
    go_wp2
    go_returns
    exact ⟨_, rfl, by simp, by go_grown⟩

theorem ringSearch (c : Nat) (s : ByteArray) (w : World) (h : w.cell? ⟨c, 0, none⟩ = some (.slice none 0 0)) : Calls Tryz.prog 146 #[.pointer (some ⟨c, 0, none⟩), .string s] w fun e w' =>
    e = .returned (.tuple #[.int .i64 0, .bool false]) ∧ Below w.heap.size w w' := by
  have hlt := World.block_lt_of_cell? _ _ h
  go_enter Tryz.func146, Tryz.ntmps146
  go_wp2
  go_loopw [9, 10] (fun i j wr => i = .int .i64 0 ∧ j = .int .i64 0 ∧ wr = w) (fun _ _ _ => 0)
  case atStart => exact ⟨rfl, rfl, rfl⟩
  case round =>
    obtain ⟨rfl, rfl, rfl⟩ := hrel
    go_wp2
    go_returns
    exact ⟨rfl, by go_grown⟩

theorem ringGet (c : Nat) (s : ByteArray) (w : World) (h : w.cell? ⟨c, 0, none⟩ = some (.slice none 0 0)) : Calls Tryz.prog 98 #[.pointer (some ⟨c, 0, none⟩), .string s] w fun e w' =>
    e = .returned (.tuple #[key0, .int .i64 16]) ∧ Below w.heap.size w w' := by
  have hlt := World.block_lt_of_cell? _ _ h
  go_enter Tryz.func98, Tryz.ntmps98
  go_wp2_with fail
  refine (ringSearch c s _ (cell_below h ((Below.refl _ _).alloc (Nat.le_refl _) _))).mono ?_
  rintro e w1 ⟨rfl, hb1⟩
  have r0 := Vo.heap_below (heap_alloc_new w (Obj.cells #[Value.int IntKind.i64 0, Value.int IntKind.i64 0, Value.string ⟨#[]⟩] 28)) hb1
  have c0 : w1.cell? ⟨w.heap.size, 0, none⟩ = some (.int .i64 0) := cell_of_row w1 w.heap.size 0 _ _ _ r0
  have c1 : w1.cell? ⟨w.heap.size, 1, none⟩ = some (.int .i64 0) := cell_of_row w1 w.heap.size 1 _ _ _ r0
  have c2 : w1.cell? ⟨w.heap.size, 2, none⟩ = some (.string ⟨#[]⟩) := cell_of_row w1 w.heap.size 2 _ _ _ r0
  have f0 : ∀ j, w1.frozen? ⟨w.heap.size, j, none⟩ = false := fun j => frozen_of_row w1 w.heap.size j _ _ r0
  have bel := ((Below.refl w.heap.size w).alloc (Nat.le_refl _) (Obj.cells #[Value.int IntKind.i64 0, Value.int IntKind.i64 0, Value.string ⟨#[]⟩] 28)).trans (hb1.mono (by simp))
  clear hb1 r0
  go_wp2
  refine bodyPost_ret (by simp [results, Tryz.results98, go_sem, c0, c1, c2]; try rfl) rfl ?_
  exact ⟨rfl, by have hz := bel.size; go_grown⟩
end Go.Proofs.YtlgghcffmnofdaaGreatDoor.Ke
