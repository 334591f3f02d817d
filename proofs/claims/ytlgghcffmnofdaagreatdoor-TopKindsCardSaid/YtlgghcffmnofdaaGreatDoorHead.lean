/-
  local.Head, (key.kind).Is, wrap.kinds, (wrap.paper).head.
-/
import Derived.Test.YtlgghcffmnofdaaGreatDoorSerial
namespace Go.Proofs.YtlgghcffmnofdaaGreatDoor.Ke
open Go Go.RowKit Go.Proofs.YtlgghcffmnofdaaGreatDoor.Cn
set_option maxRecDepth 100000

theorem lhead_31 (w : World) : Calls Tryz.prog 29 #[.int .i64 3, .int .i64 1] w fun e w' => e = .returned (.string ⟨#[118, 51, 46, 108, 111, 99, 97, 108, 46]⟩) ∧ Below w.heap.size w w' := by
  go_enter Tryz.func29, Tryz.ntmps29
  go_wp2_with fail
  refine (itoa3 _).mono ?_
  rintro e w1 ⟨rfl, hb⟩
  go_wp2_with fail
  go_returns
  exact ⟨rfl, hb⟩
theorem lhead_41 (w : World) : Calls Tryz.prog 29 #[.int .i64 4, .int .i64 1] w fun e w' => e = .returned (.string ⟨#[118, 52, 46, 108, 111, 99, 97, 108, 46]⟩) ∧ Below w.heap.size w w' := by
  go_enter Tryz.func29, Tryz.ntmps29
  go_wp2_with fail
  refine (itoa4 _).mono ?_
  rintro e w1 ⟨rfl, hb⟩
  go_wp2_with fail
  go_returns
  exact ⟨rfl, hb⟩

theorem isV_any (v p x : Int) (w : World) : Calls Tryz.prog 49 #[kindV v p, .int .i64 x, .slice none 0 0] w fun e w' => e = .returned (.bool (v == x)) ∧ Below w.heap.size w w' := by
  by_cases h : v = x
  · have h1 : (v == x) = true := by simpa using h
    go_enter Tryz.func49, Tryz.ntmps49
    clear h
    go_wp2
    go_returns
    exact ⟨by rw [h1]; rfl, by go_grown⟩
  · have h1 : (v == x) = false := by simpa using h
    go_enter Tryz.func49, Tryz.ntmps49
    clear h
    go_wp2
    go_returns
    exact ⟨by rw [h1]; rfl, by go_grown⟩

set_option maxHeartbeats 1600000 in
theorem make_local (v : Int) (l : List UInt8) (bv : Value) (w : World) (hv : Bsl w bv l) (hs : sizeOf v 1 = some 32) (hl : l.length = 32) :
    Calls Tryz.prog 33 #[.int .i64 v, .int .i64 1, bv] w fun e w' => e = .returned (.tuple #[keyV v 1 ⟨l.toArray⟩, .int .i64 0]) ∧ Below w.heap.size w w' := by
  have HV := Lib.hid hv
  have HN := Lib.hid (fun w h => new_early v 1 l bv w h (.inr ⟨32, hs, .inr rfl⟩))
  have hres : newRes v 1 l = .tuple #[keyV v 1 ⟨l.toArray⟩, .int .i64 0] := by
    unfold newRes
    rw [hs]
    simp only [hl]
    rfl
  have HRES := Lib.hid hres
  clear hres
  obtain ⟨a, cap, hbv, _, _⟩ := hv
  subst hbv
  rw [hl] at HV HN
  go_enter Tryz.func33, Tryz.ntmps33
  go_wp2_with fail
  refine (sizes_any _).mono ?_
  rintro e w1 ⟨vm, rfl, hb1, hvm⟩
  have hk := run_sizes hvm v 1
  rw [hs] at hk
  simp only [Option.getD_some, Option.isSome_some] at hk
  have r0 := Vo.heap_below (heap_alloc_new w (Obj.cells #[Value.int IntKind.i64 0, Value.int IntKind.i64 0, Value.string ⟨#[]⟩] 28)) hb1
  have bel := ((Below.refl w.heap.size w).alloc (Nat.le_refl _) (Obj.cells #[Value.int IntKind.i64 0, Value.int IntKind.i64 0, Value.string ⟨#[]⟩] 28)).trans (hb1.mono (by simp))
  clear hb1
  go_wp2_with fail
  refine (HN.out w1 (HV.out.below bel)).mono ?_
  rintro e w2 ⟨rfl, hb2⟩
  rw [HRES.out]
  have r2 := Vo.heap_below r0 hb2
  have c0 : w2.cell? ⟨w.heap.size, 0, none⟩ = some (.int .i64 0) := cell_of_row w2 w.heap.size 0 _ _ _ r2
  have c1 : w2.cell? ⟨w.heap.size, 1, none⟩ = some (.int .i64 0) := cell_of_row w2 w.heap.size 1 _ _ _ r2
  have c2 : w2.cell? ⟨w.heap.size, 2, none⟩ = some (.string ⟨#[]⟩) := cell_of_row w2 w.heap.size 2 _ _ _ r2
  have f0 : ∀ j, w2.frozen? ⟨w.heap.size, j, none⟩ = false := fun j => frozen_of_row w2 w.heap.size j _ _ r2
  have bel2 := bel.trans (hb2.mono bel.size)
  clear hb2 r0 r2 hk hvm
  go_wp2_with fail
  refine bodyPost_ret (by simp [results, Tryz.results33, go_sem, c0, c1, c2]; try rfl) rfl ?_
  exact ⟨rfl, by have hz := bel2.size; go_grown⟩
end Go.Proofs.YtlgghcffmnofdaaGreatDoor.Ke
