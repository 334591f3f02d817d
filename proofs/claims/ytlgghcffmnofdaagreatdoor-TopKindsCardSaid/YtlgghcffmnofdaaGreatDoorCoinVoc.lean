/-
  Slices of bytes as texts; the law's fixed fact.
-/
import Derived.Test.YtlgghcffmnofdaaGreatDoorCoinLaws
namespace Go.Proofs.YtlgghcffmnofdaaGreatDoor.Cn
open Go.RowKit

theorem strOf (l : List UInt8) : strOfNums (l.map fun c => (c.toNat : Int)) = ⟨l.toArray⟩ := by
  unfold strOfNums
  congr 1
  rw [List.map_map]
  congr 1
  conv => rhs; rw [← List.map_id l]
  refine List.map_congr_left (fun c _ => ?_)
  simp

/-- string(b). -/
theorem conv_bsl {w : World} {v : Value} {l : List UInt8} (h : Bsl w v l) : (convert 36 9 v).run Tryz.prog w = .ok (.string ⟨l.toArray⟩) w := by
  obtain ⟨a, cap, rfl, _, hc⟩ := h
  rcases a with _ | ad
  · have hl : l = [] := by
      rcases l with _ | ⟨c, t⟩
      · rfl
      · obtain ⟨_, _, h1, _⟩ := hc 0 (by simp)
        cases h1
    subst hl
    exact run_convert_bytes_nil w 36 5 Tryz.underlying36 Tryz.underlying5 _ _ 9 Tryz.underlying9
  · rw [run_convert_bytes_string w 36 9 5 _ l.length cap Tryz.underlying36 Tryz.underlying5 Tryz.underlying9]
    have hl : (loadCells ad l.length).run Tryz.prog w = .ok ((l.map fun c => (c.toNat : Int)).map (Value.int .u8)).toArray w := by
      have := run_loadCells_list (P := Tryz.prog) w ad ((l.map fun c => (c.toNat : Int)).map (Value.int .u8)) (fun j v hj => by
        have hjl : j < l.length := by
          rcases Nat.lt_or_ge j l.length with h | h
          · exact h
          · simp [List.getElem?_eq_none h] at hj
        obtain ⟨b, off, h1, h2⟩ := hc j hjl
        obtain rfl := Option.some.inj h1
        have hplain : (⟨b, off, none⟩ : Addr).add j = ⟨b, off + j, none⟩ := by unfold Addr.add; split <;> simp_all
        rw [hplain, h2]
        simpa [List.getElem?_eq_getElem hjl] using hj)
      simpa using this
    rw [run_bytesToString w _ l.length cap _ hl, foldl_push_bytes]
    have := strOf l
    unfold strOfNums at this
    rw [show ByteArray.empty.data = #[] from rfl, Array.empty_append]
    exact congrArg (fun s => Result.ok (Value.string s) w) this

theorem bsl_build (w : World) (l : List UInt8) : Bsl (w.alloc (.cells (cs l).toArray 5)) (.slice (some ⟨w.heap.size, 0, none⟩) l.length l.length) l := by
  refine ⟨_, _, rfl, Nat.le_refl _, fun j hj => ⟨w.heap.size, 0, rfl, ?_⟩⟩
  rw [cell_of_row _ w.heap.size (0 + j) (cs l).toArray 5 (0, 0) (heap_alloc_new w _), Nat.zero_add]
  simp [cs, hj]

end Go.Proofs.YtlgghcffmnofdaaGreatDoor.Cn
