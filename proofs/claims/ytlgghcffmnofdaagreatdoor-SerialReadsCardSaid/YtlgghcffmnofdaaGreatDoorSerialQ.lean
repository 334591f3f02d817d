/-
  The walks of package serial's small functions.
-/
import Derived.Test.YtlgghcffmnofdaaGreatDoorCoinAll
import Derived.Test.YtlgghcffmnofdaaGreatDoorKeyAll

namespace Go.Proofs.YtlgghcffmnofdaaGreatDoor.Ke
open Go Go.RowKit Go.Proofs.YtlgghcffmnofdaaGreatDoor.Cn
set_option linter.unusedSimpArgs false
set_option maxRecDepth 100000

theorem typedKind_any (v p : Int) (b : ByteArray) (w : World) : Calls Tryz.prog 45 #[keyV v p b] w fun e w' => e = .returned (kindV v p) ∧ Below w.heap.size w w' := by
  go_enter Tryz.func45, Tryz.ntmps45
  go_wp2
  ((refine wp_region_mild 9 (by kernel_rfl) (by kernel_rfl) ?_; simp only [List.take_succ_cons, List.take_zero, List.drop_succ_cons, List.drop_zero]); (repeat (first | (apply wpMild_const; (focus (intro wm hm; have hrw := fun p h => Go.RowKit.Below.cell (p := p) hm h; go_simp; exact rfl)); simp only [List.cons_append, List.nil_append]) | (apply wpMild_call; (focus (intro wm hm; have hrw := fun p h => Go.RowKit.Below.cell (p := p) hm h; go_simp; (first | exact Calls.mild (version_any _ _ _) | exact Calls.mild (purpose_any _ _ _)))); (focus (first | exact Go.md_stays_eq _ | (intro v w w' h hb; first | exact Bsl.below h hb | exact Sizes.stays _ _ _ h hb | (obtain ⟨c, h1, h2, h3⟩ := h; exact ⟨c, h1, h2, Vo.heap_below h3 hb⟩) | fail))); simp only [List.cons_append, List.nil_append]))); (refine wpMild_nil ?_; intro wm hm; simp only [mildAll, forall_eq, forall_exists_index, and_imp, Act.put, List.setIfInBounds_toArray, List.set_cons_succ, List.set_cons_zero, forall_eq_apply_imp_iff]))
  have bel := (((Below.refl w.heap.size w).alloc (Nat.le_refl _) (Obj.cells #[Value.int IntKind.i64 v, Value.int IntKind.i64 p, Value.string b] 92)).alloc (by simp) (Obj.cells #[Value.int IntKind.i64 0, Value.int IntKind.i64 0] 79)).trans (hm.mono (by simp; omega))
  have k := fun p h => hm.cell (p := p) h
  have k2 := fun p h => hm.frozen (p := p) h
  have c0 : wm.cell? ⟨w.heap.size + 1, 0, none⟩ = some (.int .i64 0) := by rw [k _ (by simp <;> omega)]; simp
  have c1 : wm.cell? ⟨w.heap.size + 1, 1, none⟩ = some (.int .i64 0) := by rw [k _ (by simp <;> omega)]; simp
  have f0 : ∀ j, wm.frozen? ⟨w.heap.size + 1, j, none⟩ = false := fun j => by rw [k2 _ (by simp <;> omega)]; simp
  clear k k2 hm
  go_wp2
  refine bodyPost_ret (by simp [results, Tryz.results45, go_sem, c0, c1]; try rfl) rfl ?_
  exact ⟨rfl, by go_grown⟩

/-- The words lie in their variable. -/
def wordsL : List ByteArray := [⟨#[]⟩, ⟨#[]⟩, ⟨#[108, 111, 99, 97, 108]⟩, ⟨#[108, 105, 100]⟩, ⟨#[115, 101, 99, 114, 101, 116]⟩, ⟨#[115, 105, 100]⟩, ⟨#[112, 117, 98, 108, 105, 99]⟩, ⟨#[112, 105, 100]⟩]
def Words (w : World) : Prop := ∀ j s, wordsL[j]? = some s → w.cell? ⟨0, j, none⟩ = some (.string s)
theorem Words.below {w w' : World} (h : Words w) (hb : Below w.heap.size w w') : Words w' := fun j s hj => cell_below (h j s hj) hb

theorem itoa3 (w : World) : Calls Tryz.prog 67 #[.int .i64 3] w fun e w' => e = .returned (.string ⟨#[51]⟩) ∧ Below w.heap.size w w' :=
  (Tryz.strconv_Itoa_small 3 (by decide) w).mono (by rw [show Lib.decDigits 3 = [51] by decide +kernel]; rintro e w' ⟨rfl, rfl⟩; exact ⟨rfl, Below.refl _ _⟩)
theorem itoa4 (w : World) : Calls Tryz.prog 67 #[.int .i64 4] w fun e w' => e = .returned (.string ⟨#[52]⟩) ∧ Below w.heap.size w w' :=
  (Tryz.strconv_Itoa_small 4 (by decide) w).mono (by rw [show Lib.decDigits 4 = [52] by decide +kernel]; rintro e w' ⟨rfl, rfl⟩; exact ⟨rfl, Below.refl _ _⟩)

theorem head_310 (w : World) (hw : Words w) : Calls Tryz.prog 46 #[kindV 3 1, .int .i64 0] w fun e w' => e = .returned (.string ⟨#[107, 51, 46, 108, 111, 99, 97, 108, 46]⟩) ∧ Below w.heap.size w w' := by
  have hc := hw 2 _ rfl
  have hlt : 0 < _ := World.block_lt_of_cell? _ _ hc
  go_enter Tryz.func46, Tryz.ntmps46
  go_wp2
  (refine wp_region_mild 14 (by kernel_rfl) (by kernel_rfl) ?_; simp only [List.take_succ_cons, List.take_zero, List.drop_succ_cons, List.drop_zero])
  repeat (first | (apply wpMild_const; (focus (intro wm hm; have hrw := fun p h => Go.RowKit.Below.cell (p := p) hm h; go_simp; exact rfl)); simp only [List.cons_append, List.nil_append]) | (apply wpMild_call; (focus (intro wm hm; have hrw := fun p h => Go.RowKit.Below.cell (p := p) hm h; go_simp; (first | exact Calls.mild (itoa3 _) | exact Calls.mild (itoa4 _)))); (focus (first | exact Go.md_stays_eq _ | (intro v w w' h hb; first | exact Bsl.below h hb | exact Sizes.stays _ _ _ h hb | (obtain ⟨c, h1, h2, h3⟩ := h; exact ⟨c, h1, h2, Vo.heap_below h3 hb⟩) | fail))); simp only [List.cons_append, List.nil_append]))
  (refine wpMild_nil ?_; intro wm hm; simp only [mildAll, forall_eq, forall_exists_index, and_imp, Act.put, List.setIfInBounds_toArray, List.set_cons_succ, List.set_cons_zero, forall_eq_apply_imp_iff])
  have bel := ((Below.refl _ _).alloc (Nat.le_refl _) _).trans (hm.mono (by simp))
  go_wp2
  go_returns
  exact ⟨rfl, bel⟩

theorem head_311 (w : World) (hw : Words w) : Calls Tryz.prog 46 #[kindV 3 1, .int .i64 1] w fun e w' => e = .returned (.string ⟨#[107, 51, 46, 108, 105, 100, 46]⟩) ∧ Below w.heap.size w w' := by
  have hc := hw 3 _ rfl
  have hlt : 0 < _ := World.block_lt_of_cell? _ _ hc
  go_enter Tryz.func46, Tryz.ntmps46
  go_wp2
  (refine wp_region_mild 14 (by kernel_rfl) (by kernel_rfl) ?_; simp only [List.take_succ_cons, List.take_zero, List.drop_succ_cons, List.drop_zero])
  repeat (first | (apply wpMild_const; (focus (intro wm hm; have hrw := fun p h => Go.RowKit.Below.cell (p := p) hm h; go_simp; exact rfl)); simp only [List.cons_append, List.nil_append]) | (apply wpMild_call; (focus (intro wm hm; have hrw := fun p h => Go.RowKit.Below.cell (p := p) hm h; go_simp; (first | exact Calls.mild (itoa3 _) | exact Calls.mild (itoa4 _)))); (focus (first | exact Go.md_stays_eq _ | (intro v w w' h hb; first | exact Bsl.below h hb | exact Sizes.stays _ _ _ h hb | (obtain ⟨c, h1, h2, h3⟩ := h; exact ⟨c, h1, h2, Vo.heap_below h3 hb⟩) | fail))); simp only [List.cons_append, List.nil_append]))
  (refine wpMild_nil ?_; intro wm hm; simp only [mildAll, forall_eq, forall_exists_index, and_imp, Act.put, List.setIfInBounds_toArray, List.set_cons_succ, List.set_cons_zero, forall_eq_apply_imp_iff])
  have bel := ((Below.refl _ _).alloc (Nat.le_refl _) _).trans (hm.mono (by simp))
  go_wp2
  go_returns
  exact ⟨rfl, bel⟩

theorem head_410 (w : World) (hw : Words w) : Calls Tryz.prog 46 #[kindV 4 1, .int .i64 0] w fun e w' => e = .returned (.string ⟨#[107, 52, 46, 108, 111, 99, 97, 108, 46]⟩) ∧ Below w.heap.size w w' := by
  have hc := hw 2 _ rfl
  have hlt : 0 < _ := World.block_lt_of_cell? _ _ hc
  go_enter Tryz.func46, Tryz.ntmps46
  go_wp2
  (refine wp_region_mild 14 (by kernel_rfl) (by kernel_rfl) ?_; simp only [List.take_succ_cons, List.take_zero, List.drop_succ_cons, List.drop_zero])
  repeat (first | (apply wpMild_const; (focus (intro wm hm; have hrw := fun p h => Go.RowKit.Below.cell (p := p) hm h; go_simp; exact rfl)); simp only [List.cons_append, List.nil_append]) | (apply wpMild_call; (focus (intro wm hm; have hrw := fun p h => Go.RowKit.Below.cell (p := p) hm h; go_simp; (first | exact Calls.mild (itoa3 _) | exact Calls.mild (itoa4 _)))); (focus (first | exact Go.md_stays_eq _ | (intro v w w' h hb; first | exact Bsl.below h hb | exact Sizes.stays _ _ _ h hb | (obtain ⟨c, h1, h2, h3⟩ := h; exact ⟨c, h1, h2, Vo.heap_below h3 hb⟩) | fail))); simp only [List.cons_append, List.nil_append]))
  (refine wpMild_nil ?_; intro wm hm; simp only [mildAll, forall_eq, forall_exists_index, and_imp, Act.put, List.setIfInBounds_toArray, List.set_cons_succ, List.set_cons_zero, forall_eq_apply_imp_iff])
  have bel := ((Below.refl _ _).alloc (Nat.le_refl _) _).trans (hm.mono (by simp))
  go_wp2
  go_returns
  exact ⟨rfl, bel⟩

theorem head_411 (w : World) (hw : Words w) : Calls Tryz.prog 46 #[kindV 4 1, .int .i64 1] w fun e w' => e = .returned (.string ⟨#[107, 52, 46, 108, 105, 100, 46]⟩) ∧ Below w.heap.size w w' := by
  have hc := hw 3 _ rfl
  have hlt : 0 < _ := World.block_lt_of_cell? _ _ hc
  go_enter Tryz.func46, Tryz.ntmps46
  go_wp2
  (refine wp_region_mild 14 (by kernel_rfl) (by kernel_rfl) ?_; simp only [List.take_succ_cons, List.take_zero, List.drop_succ_cons, List.drop_zero])
  repeat (first | (apply wpMild_const; (focus (intro wm hm; have hrw := fun p h => Go.RowKit.Below.cell (p := p) hm h; go_simp; exact rfl)); simp only [List.cons_append, List.nil_append]) | (apply wpMild_call; (focus (intro wm hm; have hrw := fun p h => Go.RowKit.Below.cell (p := p) hm h; go_simp; (first | exact Calls.mild (itoa3 _) | exact Calls.mild (itoa4 _)))); (focus (first | exact Go.md_stays_eq _ | (intro v w w' h hb; first | exact Bsl.below h hb | exact Sizes.stays _ _ _ h hb | (obtain ⟨c, h1, h2, h3⟩ := h; exact ⟨c, h1, h2, Vo.heap_below h3 hb⟩) | fail))); simp only [List.cons_append, List.nil_append]))
  (refine wpMild_nil ?_; intro wm hm; simp only [mildAll, forall_eq, forall_exists_index, and_imp, Act.put, List.setIfInBounds_toArray, List.set_cons_succ, List.set_cons_zero, forall_eq_apply_imp_iff])
  have bel := ((Below.refl _ _).alloc (Nat.le_refl _) _).trans (hm.mono (by simp))
  go_wp2
  go_returns
  exact ⟨rfl, bel⟩

theorem head_420 (w : World) (hw : Words w) : Calls Tryz.prog 46 #[kindV 4 2, .int .i64 0] w fun e w' => e = .returned (.string ⟨#[107, 52, 46, 115, 101, 99, 114, 101, 116, 46]⟩) ∧ Below w.heap.size w w' := by
  have hc := hw 4 _ rfl
  have hlt : 0 < _ := World.block_lt_of_cell? _ _ hc
  go_enter Tryz.func46, Tryz.ntmps46
  go_wp2
  (refine wp_region_mild 14 (by kernel_rfl) (by kernel_rfl) ?_; simp only [List.take_succ_cons, List.take_zero, List.drop_succ_cons, List.drop_zero])
  repeat (first | (apply wpMild_const; (focus (intro wm hm; have hrw := fun p h => Go.RowKit.Below.cell (p := p) hm h; go_simp; exact rfl)); simp only [List.cons_append, List.nil_append]) | (apply wpMild_call; (focus (intro wm hm; have hrw := fun p h => Go.RowKit.Below.cell (p := p) hm h; go_simp; (first | exact Calls.mild (itoa3 _) | exact Calls.mild (itoa4 _)))); (focus (first | exact Go.md_stays_eq _ | (intro v w w' h hb; first | exact Bsl.below h hb | exact Sizes.stays _ _ _ h hb | (obtain ⟨c, h1, h2, h3⟩ := h; exact ⟨c, h1, h2, Vo.heap_below h3 hb⟩) | fail))); simp only [List.cons_append, List.nil_append]))
  (refine wpMild_nil ?_; intro wm hm; simp only [mildAll, forall_eq, forall_exists_index, and_imp, Act.put, List.setIfInBounds_toArray, List.set_cons_succ, List.set_cons_zero, forall_eq_apply_imp_iff])
  have bel := ((Below.refl _ _).alloc (Nat.le_refl _) _).trans (hm.mono (by simp))
  go_wp2
  go_returns
  exact ⟨rfl, bel⟩

theorem head_421 (w : World) (hw : Words w) : Calls Tryz.prog 46 #[kindV 4 2, .int .i64 1] w fun e w' => e = .returned (.string ⟨#[107, 52, 46, 115, 105, 100, 46]⟩) ∧ Below w.heap.size w w' := by
  have hc := hw 5 _ rfl
  have hlt : 0 < _ := World.block_lt_of_cell? _ _ hc
  go_enter Tryz.func46, Tryz.ntmps46
  go_wp2
  (refine wp_region_mild 14 (by kernel_rfl) (by kernel_rfl) ?_; simp only [List.take_succ_cons, List.take_zero, List.drop_succ_cons, List.drop_zero])
  repeat (first | (apply wpMild_const; (focus (intro wm hm; have hrw := fun p h => Go.RowKit.Below.cell (p := p) hm h; go_simp; exact rfl)); simp only [List.cons_append, List.nil_append]) | (apply wpMild_call; (focus (intro wm hm; have hrw := fun p h => Go.RowKit.Below.cell (p := p) hm h; go_simp; (first | exact Calls.mild (itoa3 _) | exact Calls.mild (itoa4 _)))); (focus (first | exact Go.md_stays_eq _ | (intro v w w' h hb; first | exact Bsl.below h hb | exact Sizes.stays _ _ _ h hb | (obtain ⟨c, h1, h2, h3⟩ := h; exact ⟨c, h1, h2, Vo.heap_below h3 hb⟩) | fail))); simp only [List.cons_append, List.nil_append]))
  (refine wpMild_nil ?_; intro wm hm; simp only [mildAll, forall_eq, forall_exists_index, and_imp, Act.put, List.setIfInBounds_toArray, List.set_cons_succ, List.set_cons_zero, forall_eq_apply_imp_iff])
  have bel := ((Below.refl _ _).alloc (Nat.le_refl _) _).trans (hm.mono (by simp))
  go_wp2
  go_returns
  exact ⟨rfl, bel⟩

theorem head_430 (w : World) (hw : Words w) : Calls Tryz.prog 46 #[kindV 4 3, .int .i64 0] w fun e w' => e = .returned (.string ⟨#[107, 52, 46, 112, 117, 98, 108, 105, 99, 46]⟩) ∧ Below w.heap.size w w' := by
  have hc := hw 6 _ rfl
  have hlt : 0 < _ := World.block_lt_of_cell? _ _ hc
  go_enter Tryz.func46, Tryz.ntmps46
  go_wp2
  (refine wp_region_mild 14 (by kernel_rfl) (by kernel_rfl) ?_; simp only [List.take_succ_cons, List.take_zero, List.drop_succ_cons, List.drop_zero])
  repeat (first | (apply wpMild_const; (focus (intro wm hm; have hrw := fun p h => Go.RowKit.Below.cell (p := p) hm h; go_simp; exact rfl)); simp only [List.cons_append, List.nil_append]) | (apply wpMild_call; (focus (intro wm hm; have hrw := fun p h => Go.RowKit.Below.cell (p := p) hm h; go_simp; (first | exact Calls.mild (itoa3 _) | exact Calls.mild (itoa4 _)))); (focus (first | exact Go.md_stays_eq _ | (intro v w w' h hb; first | exact Bsl.below h hb | exact Sizes.stays _ _ _ h hb | (obtain ⟨c, h1, h2, h3⟩ := h; exact ⟨c, h1, h2, Vo.heap_below h3 hb⟩) | fail))); simp only [List.cons_append, List.nil_append]))
  (refine wpMild_nil ?_; intro wm hm; simp only [mildAll, forall_eq, forall_exists_index, and_imp, Act.put, List.setIfInBounds_toArray, List.set_cons_succ, List.set_cons_zero, forall_eq_apply_imp_iff])
  have bel := ((Below.refl _ _).alloc (Nat.le_refl _) _).trans (hm.mono (by simp))
  go_wp2
  go_returns
  exact ⟨rfl, bel⟩

theorem head_431 (w : World) (hw : Words w) : Calls Tryz.prog 46 #[kindV 4 3, .int .i64 1] w fun e w' => e = .returned (.string ⟨#[107, 52, 46, 112, 105, 100, 46]⟩) ∧ Below w.heap.size w w' := by
  have hc := hw 7 _ rfl
  have hlt : 0 < _ := World.block_lt_of_cell? _ _ hc
  go_enter Tryz.func46, Tryz.ntmps46
  go_wp2
  (refine wp_region_mild 14 (by kernel_rfl) (by kernel_rfl) ?_; simp only [List.take_succ_cons, List.take_zero, List.drop_succ_cons, List.drop_zero])
  repeat (first | (apply wpMild_const; (focus (intro wm hm; have hrw := fun p h => Go.RowKit.Below.cell (p := p) hm h; go_simp; exact rfl)); simp only [List.cons_append, List.nil_append]) | (apply wpMild_call; (focus (intro wm hm; have hrw := fun p h => Go.RowKit.Below.cell (p := p) hm h; go_simp; (first | exact Calls.mild (itoa3 _) | exact Calls.mild (itoa4 _)))); (focus (first | exact Go.md_stays_eq _ | (intro v w w' h hb; first | exact Bsl.below h hb | exact Sizes.stays _ _ _ h hb | (obtain ⟨c, h1, h2, h3⟩ := h; exact ⟨c, h1, h2, Vo.heap_below h3 hb⟩) | fail))); simp only [List.cons_append, List.nil_append]))
  (refine wpMild_nil ?_; intro wm hm; simp only [mildAll, forall_eq, forall_exists_index, and_imp, Act.put, List.setIfInBounds_toArray, List.set_cons_succ, List.set_cons_zero, forall_eq_apply_imp_iff])
  have bel := ((Below.refl _ _).alloc (Nat.le_refl _) _).trans (hm.mono (by simp))
  go_wp2
  go_returns
  exact ⟨rfl, bel⟩

end Go.Proofs.YtlgghcffmnofdaaGreatDoor.Ke
