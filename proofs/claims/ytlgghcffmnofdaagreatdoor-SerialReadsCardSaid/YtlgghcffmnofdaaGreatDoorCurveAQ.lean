/-
  The walks of curve: one, factor.
-/
import Derived.Test.YtlgghcffmnofdaaGreatDoorNumJQ

namespace Go.Proofs.YtlgghcffmnofdaaGreatDoor.Nu
open Go Go.RowKit Go.Proofs.YtlgghcffmnofdaaGreatDoor.Cn
set_option maxRecDepth 100000

theorem one_any (w : World) : Calls Tryz.prog 195 #[] w fun e w' => e = .returned (numV 1) ∧ Below w.heap.size w w' := by
  rw [num1]
  go_enter Tryz.func195, Tryz.ntmps195
  go_wp2
  refine bodyPost_ret (by simp [results, Tryz.results195, go_sem]; try rfl) rfl ?_
  exact ⟨rfl, by go_grown⟩

theorem nums2 {w : World} {b x y : Nat} {t : TypeId} (h : w.heap[b]? = some (.cells #[w64 (lim x 0), w64 (lim x 1), w64 (lim x 2), w64 (lim x 3), w64 (lim y 0), w64 (lim y 1), w64 (lim y 2), w64 (lim y 3)] t)) : Nums w b [x, y] := by
  refine ⟨fun i k hi hk => ?_, Vo.heap_lt h⟩
  rw [cell_of_row w b (i * 4 + k) _ _ _ h]
  obtain rfl | rfl : i = 0 ∨ i = 1 := by simp at hi; omega
  · obtain rfl | rfl | rfl | rfl : k = 0 ∨ k = 1 ∨ k = 2 ∨ k = 3 := by omega
    all_goals rfl
  · obtain rfl | rfl | rfl | rfl : k = 0 ∨ k = 1 ∨ k = 2 ∨ k = 3 := by omega
    all_goals rfl

set_option maxHeartbeats 1600000 in
theorem factor_ex : ∃ d : Nat, d < 2 ^ 256 ∧ ∀ w, Calls Tryz.prog 197 #[] w fun e w' => e = .returned (numV d) ∧ Below w.heap.size w w' := by
  have HS : Hid (∀ w, Calls Tryz.prog 194 #[.agg #[.int .u64 0, .int .u64 0, .int .u64 0, .int .u64 0], .agg #[.int .u64 121665, .int .u64 0, .int .u64 0, .int .u64 0]] w fun e w' => e = .returned (numV (subN 0 121665)) ∧ Below w.heap.size w w') := Lib.hid (fun w => by
    have h := sub_any 0 121665 w (by decide) (by decide)
    rw [num0, numV_small 121665 (by decide)] at h
    exact h)
  have HI : Hid (∀ w, Calls Tryz.prog 157 #[.agg #[.int .u64 121666, .int .u64 0, .int .u64 0, .int .u64 0]] w fun e w' => e = .returned (numV (invN 121666)) ∧ Below w.heap.size w w') := Lib.hid (fun w => by
    have h := inverse_any 121666 w (by decide)
    rw [numV_small 121666 (by decide)] at h
    exact h)
  have hfx : ∃ x y, x = subN 0 121665 ∧ y = invN 121666 ∧ x < 2 ^ 256 ∧ y < 2 ^ 256 := ⟨_, _, rfl, rfl, subN_lt _ _, invN_lt _⟩
  obtain ⟨x, y, hx, hy, hxl, hyl⟩ := hfx
  refine ⟨mulL [x, y], mulL_le _, fun w => ?_⟩
  rw [← hx] at HS
  rw [← hy] at HI
  have HL := Lib.hid (And.intro hxl hyl)
  clear hx hy hxl hyl
  go_enter Tryz.func197, Tryz.ntmps197
  go_wp2_with fail
  refine (HS.out _).mono ?_
  rintro e w1 ⟨rfl, hb1⟩
  have bel0 := (Below.refl w.heap.size w).alloc (Nat.le_refl _) zero4
  have bel1 := bel0.trans (hb1.mono bel0.size)
  have O1 := (wd_zero (heap_alloc_new w zero4)).below hb1
  clear bel0 hb1
  go_wp2_with fail
  refine (HI.out _).mono ?_
  rintro e w2 ⟨rfl, hb2⟩
  have O2 := O1.below hb2
  have bel2 := bel1.trans (hb2.mono bel1.size)
  clear O1 bel1 hb2
  have hn := nums2 (heap_alloc_new w2 (Obj.cells #[w64 (lim x 0), w64 (lim x 1), w64 (lim x 2), w64 (lim x 3), w64 (lim y 0), w64 (lim y 1), w64 (lim y 2), w64 (lim y 3)] 150))
  have HM := Lib.hid (mulL_any [x, y] w2.heap.size 2 _ hn (by
    intro z hz
    simp only [List.mem_cons, List.not_mem_nil, or_false] at hz
    rcases hz with rfl | rfl
    · exact HL.out.1
    · exact HL.out.2) (by simp))
  have hba := (Below.refl w2.heap.size w2).alloc (Nat.le_refl _) (Obj.cells #[w64 (lim x 0), w64 (lim x 1), w64 (lim x 2), w64 (lim x 3), w64 (lim y 0), w64 (lim y 1), w64 (lim y 2), w64 (lim y 3)] 150)
  have O3 := O2.below hba
  have bel3 := bel2.trans (hba.mono bel2.size)
  clear O2 bel2 hba hn
  go_wp2_with fail
  refine HM.out.mono ?_
  rintro e w3 ⟨rfl, hb3⟩
  have O4 := O3.below hb3
  have o0 := O4.at_ 0 (by omega)
  have o1 := O4.at_ 1 (by omega)
  have o2 := O4.at_ 2 (by omega)
  have o3 := O4.at_ 3 (by omega)
  have lo := O4.lt
  have fo := O4.thaw
  have bel := bel3.trans (hb3.mono bel3.size)
  have hzs := bel.size
  clear O3 O4 bel3 hb3 HM
  go_wp2
  refine bodyPost_ret (by simp [results, Tryz.results197, go_sem, o0, o1, o2, o3]; try rfl) rfl ?_
  exact ⟨rfl, by go_grown⟩
/-- The curve's d. -/
noncomputable def facN : Nat := Classical.choose factor_ex
theorem facN_lt : facN < 2 ^ 256 := (Classical.choose_spec factor_ex).1
theorem factor_any (w : World) : Calls Tryz.prog 197 #[] w fun e w' => e = .returned (numV facN) ∧ Below w.heap.size w w' := (Classical.choose_spec factor_ex).2 w
end Go.Proofs.YtlgghcffmnofdaaGreatDoor.Nu
