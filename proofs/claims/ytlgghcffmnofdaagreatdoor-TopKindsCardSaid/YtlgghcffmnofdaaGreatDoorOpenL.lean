/-
  local.open of a Local key.
-/
import Derived.Test.YtlgghcffmnofdaaGreatDoorHead
import Derived.RegionCalls
namespace Go.Proofs.YtlgghcffmnofdaaGreatDoor.Ke
open Go Go.RowKit Go.Proofs.YtlgghcffmnofdaaGreatDoor.Cn
set_option linter.unusedSimpArgs false
set_option maxRecDepth 100000

abbrev makerV (s : Value) (v p : Int) (b h : ByteArray) : Value := .agg #[s, .int .i64 v, .int .i64 p, .string b, .string h]

set_option maxHeartbeats 8000000 in
theorem open_41 (b : ByteArray) (w : World) : Calls Tryz.prog 57 #[keyV 4 1 b] w fun e w' => e = .returned (.tuple #[makerV (.iface 180 (.agg #[])) 4 1 b ⟨#[118, 52, 46, 108, 111, 99, 97, 108, 46]⟩, .bool true]) ∧ Below w.heap.size w w' := by
  go_enter Tryz.func57, Tryz.ntmps57
  go_wp2
  (refine wp_region_mild 9 (by kernel_rfl) (by kernel_rfl) ?_; simp only [List.take_succ_cons, List.take_zero, List.drop_succ_cons, List.drop_zero])
  repeat (first | (apply wpMild_const; (focus (intro wm hm; have hrw := fun p h => Go.RowKit.Below.cell (p := p) hm h; go_simp; exact rfl)); simp only [List.cons_append, List.nil_append]) | (apply wpMild_call; (focus (intro wm hm; have hrw := fun p h => Go.RowKit.Below.cell (p := p) hm h; go_simp; (first | exact Calls.mild (version_any _ _ _) | exact Calls.mild (lhead_41 _)))); (focus (first | exact Go.md_stays_eq _ | (intro v w w' h hb; first | exact Bsl.below h hb | exact Sizes.stays _ _ _ h hb | (obtain ⟨c, h1, h2, h3⟩ := h; exact ⟨c, h1, h2, Vo.heap_below h3 hb⟩) | fail))); simp only [List.cons_append, List.nil_append]))
  (refine wpMild_some (fun v w' => ∃ c, v = .pointer (some ⟨c, 0, none⟩) ∧ w.heap.size + 2 ≤ c ∧ w'.heap[c]? = some (.cells #[.nilIface, .int .i64 0, .int .i64 0, .string ⟨#[]⟩, .string ⟨#[]⟩] 110)) ?_ ?_ ?_; (focus (intro wm hm; have hrw := fun p h => Go.RowKit.Below.cell (p := p) hm h; go_simp; (exact ⟨(Below.refl _ _).alloc (Nat.le_refl _) _, by have hz := hm.size; simp at hz; omega, by first | exact heap_alloc_new _ _ | exact (Array.getElem?_eq_some_iff.1 (heap_alloc_new _ _)).2⟩))); (focus (first | exact Go.md_stays_eq _ | (intro v w w' h hb; first | exact Bsl.below h hb | exact Sizes.stays _ _ _ h hb | (obtain ⟨c, h1, h2, h3⟩ := h; exact ⟨c, h1, h2, Vo.heap_below h3 hb⟩) | fail))); simp only [List.cons_append, List.nil_append])
  (refine wpMild_nil ?_; intro wm hm; simp only [mildAll, forall_eq, forall_exists_index, and_imp, Act.put, List.setIfInBounds_toArray, List.set_cons_succ, List.set_cons_zero, forall_eq_apply_imp_iff])
  rintro _ c rfl hc hk
  have k := fun p h => hm.cell (p := p) h
  have a0 : wm.cell? ⟨w.heap.size, 0, none⟩ = some (.int .i64 4) := by rw [k _ (by simp <;> omega)]; simp
  have a1 : wm.cell? ⟨w.heap.size, 1, none⟩ = some (.int .i64 1) := by rw [k _ (by simp <;> omega)]; simp
  have a2 : wm.cell? ⟨w.heap.size, 2, none⟩ = some (.string b) := by rw [k _ (by simp <;> omega)]; simp
  have c0 := cell_of_row wm c 0 _ _ _ hk
  have c1 := cell_of_row wm c 1 _ _ _ hk
  have c2 := cell_of_row wm c 2 _ _ _ hk
  have c3 := cell_of_row wm c 3 _ _ _ hk
  have c4 := cell_of_row wm c 4 _ _ _ hk
  have fc : ∀ j, wm.frozen? ⟨c, j, none⟩ = false := fun j => frozen_of_row wm c j _ _ hk
  have hclt := Vo.heap_lt hk
  have hne : c ≠ w.heap.size := by omega
  have hne1 : c ≠ w.heap.size + 1 := by omega
  have bel := (((Below.refl w.heap.size w).alloc (Nat.le_refl _) (Obj.cells #[Value.int IntKind.i64 4, Value.int IntKind.i64 1, Value.string b] 28)).alloc (by simp) (Obj.cells #[Value.nilIface, Value.int IntKind.i64 0, Value.int IntKind.i64 0, Value.string ⟨#[]⟩, Value.string ⟨#[]⟩] 110)).trans (hm.mono (by simp; omega))
  have k2 := fun p h => hm.frozen (p := p) h
  have r0 : wm.cell? ⟨w.heap.size + 1, 0, none⟩ = some .nilIface := by rw [k _ (by simp <;> omega)]; simp
  have r1 : wm.cell? ⟨w.heap.size + 1, 1, none⟩ = some (.int .i64 0) := by rw [k _ (by simp <;> omega)]; simp
  have r2 : wm.cell? ⟨w.heap.size + 1, 2, none⟩ = some (.int .i64 0) := by rw [k _ (by simp <;> omega)]; simp
  have r3 : wm.cell? ⟨w.heap.size + 1, 3, none⟩ = some (.string ⟨#[]⟩) := by rw [k _ (by simp <;> omega)]; simp
  have r4 : wm.cell? ⟨w.heap.size + 1, 4, none⟩ = some (.string ⟨#[]⟩) := by rw [k _ (by simp <;> omega)]; simp
  have fr : ∀ j, wm.frozen? ⟨w.heap.size + 1, j, none⟩ = false := fun j => by rw [k2 _ (by simp <;> omega)]; simp
  clear k k2 hm hk
  go_wp2_with fail
  refine (isV_any 4 1 3 _).mono ?_
  rintro e w5 ⟨rfl, hb5⟩
  rw [show ((4 : Int) == 3) = false from rfl]
  have k := fun p h => hb5.cell (p := p) h
  have k2 := fun p h => hb5.frozen (p := p) h
  have hs5 : ∀ q, q < wm.heap.size → q < (((((wm.setCell ⟨c, 0, none⟩ (Value.iface 180 (Value.agg #[]))).setCell ⟨c, 1, none⟩ (Value.int IntKind.i64 4)).setCell ⟨c, 2, none⟩ (Value.int IntKind.i64 1)).setCell ⟨c, 3, none⟩ (Value.string b)).setCell ⟨c, 4, none⟩ (Value.string ⟨#[118, 52, 46, 108, 111, 99, 97, 108, 46]⟩)).heap.size := fun q h => by simpa using h
  have hwlt : w.heap.size + 1 < wm.heap.size := by omega
  have g0 : w5.cell? ⟨c, 0, none⟩ = some (.iface 180 (.agg #[])) := by rw [k _ (hs5 _ hclt)]; go_simp
  have g1 : w5.cell? ⟨c, 1, none⟩ = some (.int .i64 4) := by rw [k _ (hs5 _ hclt)]; go_simp
  have g2 : w5.cell? ⟨c, 2, none⟩ = some (.int .i64 1) := by rw [k _ (hs5 _ hclt)]; go_simp
  have g3 : w5.cell? ⟨c, 3, none⟩ = some (.string b) := by rw [k _ (hs5 _ hclt)]; go_simp
  have g4 : w5.cell? ⟨c, 4, none⟩ = some (.string ⟨#[118, 52, 46, 108, 111, 99, 97, 108, 46]⟩) := by rw [k _ (hs5 _ hclt)]; go_simp
  have hne' : w.heap.size ≠ c := Ne.symm hne
  have hne1' : w.heap.size + 1 ≠ c := Ne.symm hne1
  have d0 : w5.cell? ⟨w.heap.size, 0, none⟩ = some (.int .i64 4) := by rw [k _ (hs5 _ (Nat.lt_of_succ_lt hwlt))]; go_simp
  have d1 : w5.cell? ⟨w.heap.size, 1, none⟩ = some (.int .i64 1) := by rw [k _ (hs5 _ (Nat.lt_of_succ_lt hwlt))]; go_simp
  have q0 : w5.cell? ⟨w.heap.size + 1, 0, none⟩ = some .nilIface := by rw [k _ (hs5 _ hwlt)]; go_simp
  have q1 : w5.cell? ⟨w.heap.size + 1, 1, none⟩ = some (.int .i64 0) := by rw [k _ (hs5 _ hwlt)]; go_simp
  have q2 : w5.cell? ⟨w.heap.size + 1, 2, none⟩ = some (.int .i64 0) := by rw [k _ (hs5 _ hwlt)]; go_simp
  have q3 : w5.cell? ⟨w.heap.size + 1, 3, none⟩ = some (.string ⟨#[]⟩) := by rw [k _ (hs5 _ hwlt)]; go_simp
  have q4 : w5.cell? ⟨w.heap.size + 1, 4, none⟩ = some (.string ⟨#[]⟩) := by rw [k _ (hs5 _ hwlt)]; go_simp
  have fq : ∀ j, w5.frozen? ⟨w.heap.size + 1, j, none⟩ = false := fun j => by rw [k2 _ (hs5 _ hwlt)]; go_simp

  have bel5 : Below w.heap.size w w5 := by
    have hz5 := bel.size
    refine Below.trans ?_ (hb5.mono (by simpa using hz5))
    go_grown
  clear k k2 hb5 c0 c1 c2 c3 c4 a0 a1 a2 r0 r1 r2 r3 r4 fr fc
  have hcw5 : c < w5.heap.size := World.block_lt_of_cell? _ _ g0
  have hw5 : w.heap.size + 1 < w5.heap.size := World.block_lt_of_cell? _ _ q0
  have hw50 : w.heap.size < w5.heap.size := Nat.lt_of_succ_lt hw5
  go_wp2_with fail
  have hz5 := bel5.size
  go_region_calls
  all_goals
    go_wp2
    refine bodyPost_ret (by simp [results, Tryz.results57, go_sem, q0, q1, q2, q3, q4, hw5]; rfl) rfl ?_
    exact ⟨rfl, by go_grown⟩
end Go.Proofs.YtlgghcffmnofdaaGreatDoor.Ke
