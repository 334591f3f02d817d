/-
  The walks of curve: Small.
-/
import Derived.Test.YtlgghcffmnofdaaGreatDoorCurveEQ

namespace Go.Proofs.YtlgghcffmnofdaaGreatDoor.Nu
open Go Go.RowKit Go.Proofs.YtlgghcffmnofdaaGreatDoor.Cn
set_option linter.unusedSimpArgs false
set_option maxRecDepth 100000

theorem eqNumD (d : Nat) (a0 a1 a2 a3 b0 b1 b2 b3 : Int) (w : World) :
    (Op.equalIn (d + 1 + 1) 150 (.agg #[.int .u64 a0, .int .u64 a1, .int .u64 a2, .int .u64 a3]) (.agg #[.int .u64 b0, .int .u64 b1, .int .u64 b2, .int .u64 b3])).run Tryz.prog w =
      .ok ((a0 == b0) && ((a1 == b1) && ((a2 == b2) && (a3 == b3)))) w := by
  obtain ⟨i, hi⟩ : ∃ i, Tryz.prog.info? 148 = some i := Option.isSome_iff_exists.1 (by kernel_rfl)
  rw [run_equalIn_array w (d + 1) _ _ Tryz.underlying150 hi, show Tryz.prog.cellsOf 148 = 1 by kernel_rfl]
  by_cases h0 : a0 = b0 <;> by_cases h1 : a1 = b1 <;> by_cases h2 : a2 = b2 <;> by_cases h3 : a3 = b3 <;> simp [List.range, List.range.loop, Op.eqItems, go_sem, h0, h1, h2, h3]
theorem eqPoint (a b c d : Nat) (w : World) (ha : a < 2 ^ 256) (hb : b < 2 ^ 256) (hc : c < 2 ^ 256) (hd : d < 2 ^ 256) :
    (Op.equalIn 10000 152 (pointV a b) (pointV c d)).run Tryz.prog w = .ok (decide (a = c) && decide (b = d)) w := by
  have h1 : (Op.equalIn (9997 + 1 + 1) 150 (numV a) (numV c)).run Tryz.prog w = .ok (decide (a = c)) w := by rw [← lims_eq ha hc]; exact eqNumD _ _ _ _ _ _ _ _ _ w
  have h2 : (Op.equalIn (9997 + 1 + 1) 150 (numV b) (numV d)).run Tryz.prog w = .ok (decide (b = d)) w := by rw [← lims_eq hb hd]; exact eqNumD _ _ _ _ _ _ _ _ _ w
  rw [show (10000 : Nat) = 9999 + 1 from rfl, run_equalIn_struct w 9999 152 _ _ (by kernel_rfl) (by kernel_rfl)]
  clear ha hb hc hd
  generalize decide (a = c) = p at *
  generalize decide (b = d) = q at *
  cases p <;> cases q <;> go_simp

theorem times_ex (x y n : Nat) : ∃ a b : Nat, a < 2 ^ 256 ∧ b < 2 ^ 256 ∧ (x < 2 ^ 256 → y < 2 ^ 256 → ∀ w, Calls Tryz.prog 109 #[pointV x y, numV n] w fun e w' => e = .returned (pointV a b) ∧ Below w.heap.size w w') :=
  ⟨timesX x y n, timesY x y n, by unfold timesX; exact mulL_le _, by unfold timesY; exact mulL_le _, fun hx hy w => times_point x y n w hx hy⟩
/-- A point, so many times (its numbers; none evaluates them). -/
noncomputable def timX (x y n : Nat) : Nat := Classical.choose (times_ex x y n)
noncomputable def timY (x y n : Nat) : Nat := Classical.choose (Classical.choose_spec (times_ex x y n))
theorem timX_lt (x y n : Nat) : timX x y n < 2 ^ 256 := (Classical.choose_spec (Classical.choose_spec (times_ex x y n))).1
theorem timY_lt (x y n : Nat) : timY x y n < 2 ^ 256 := (Classical.choose_spec (Classical.choose_spec (times_ex x y n))).2.1
theorem timesP_any (x y n : Nat) (w : World) (hx : x < 2 ^ 256) (hy : y < 2 ^ 256) : Calls Tryz.prog 109 #[pointV x y, numV n] w fun e w' => e = .returned (pointV (timX x y n) (timY x y n)) ∧ Below w.heap.size w w' :=
  (Classical.choose_spec (Classical.choose_spec (times_ex x y n))).2.2 hx hy w

/-- Is a point one of few? -/
noncomputable def smallB (x y : Nat) : Bool := decide (timX x y 8 = 0) && decide (timY x y 8 = 1)
theorem small_point (x y : Nat) (w : World) (hx : x < 2 ^ 256) (hy : y < 2 ^ 256) :
    Calls Tryz.prog 127 #[pointV x y] w fun e w' => e = .returned (.bool (smallB x y)) ∧ Below w.heap.size w w' := by
  have HT : Hid (∀ w, Calls Tryz.prog 109 #[pointV x y, .agg #[.int .u64 8, .int .u64 0, .int .u64 0, .int .u64 0]] w fun e w' => e = .returned (pointV (timX x y 8) (timY x y 8)) ∧ Below w.heap.size w w') := Lib.hid (fun w => by
    have h := timesP_any x y 8 w hx hy
    rw [numV_small 8 (by decide)] at h
    exact h)
  have HE1 : Hid (∀ w, (Op.equalIn 9999 150 (numV (timX x y 8)) (numV 0)).run Tryz.prog w = .ok (decide (timX x y 8 = 0)) w) := Lib.hid (fun w => by
    have ha := timX_lt x y 8
    rw [← lims_eq ha (show 0 < 2 ^ 256 by decide)]
    exact eqNumD 9997 _ _ _ _ _ _ _ _ w)
  have HE2 : Hid (∀ w, (Op.equalIn 9999 150 (numV (timY x y 8)) (numV 1)).run Tryz.prog w = .ok (decide (timY x y 8 = 1)) w) := Lib.hid (fun w => by
    have ha := timY_lt x y 8
    rw [← lims_eq ha (show 1 < 2 ^ 256 by decide)]
    exact eqNumD 9997 _ _ _ _ _ _ _ _ w)
  have HR : Hid (smallB x y = (decide (timX x y 8 = 0) && decide (timY x y 8 = 1))) := Lib.hid rfl
  clear hx hy
  generalize decide (timX x y 8 = 0) = p at *
  generalize decide (timY x y 8 = 1) = q at *
  generalize smallB x y = r at *
  generalize timX x y 8 = tx at *
  generalize timY x y 8 = ty at *
  go_enter Tryz.func127, Tryz.ntmps127
  go_upto_region 1 with (fail)
  refine wp_start1 ?_
  intro w0 B0 hA
  have A0 := wd_po hA
  clear hA
  obtain ⟨a0, a1, a2, a3, a4, a5, a6, a7, la⟩ := wpo A0
  (refine wp_region_mildS 5 [false, false, false, false, false] (by kernel_rfl) ?_; simp only [List.take_succ_cons, List.take_zero, List.drop_succ_cons, List.drop_zero])
  (apply wpMildF_const; (focus (intro wm hm; have hrw := fun p h => Go.RowKit.Below.cell (p := p) hm h; go_simp; exact rfl)); simp only [List.cons_append, List.nil_append])
  (apply wpMildF_const; (focus (intro wm hm; have hrw := fun p h => Go.RowKit.Below.cell (p := p) hm h; go_simp; exact rfl)); simp only [List.cons_append, List.nil_append])
  (apply wpMildF_call; (focus (intro wm hm; have hrw := fun p h => Go.RowKit.Below.cell (p := p) hm h; go_simp; (exact Calls.mild (HT.out _)))); (focus (first | exact Go.md_stays_eq _ | (intro v w w' h hb; first | exact Bsl.below h hb | exact Sizes.stays _ _ _ h hb | (obtain ⟨c, h1, h2, h3⟩ := h; exact ⟨c, h1, h2, Vo.heap_below h3 hb⟩) | fail))); simp only [List.cons_append, List.nil_append])
  (apply wpMildF_call; (focus (intro wm hm; have hrw := fun p h => Go.RowKit.Below.cell (p := p) hm h; go_simp; (exact Calls.mild (naught_any _)))); (focus (first | exact Go.md_stays_eq _ | (intro v w w' h hb; first | exact Bsl.below h hb | exact Sizes.stays _ _ _ h hb | (obtain ⟨c, h1, h2, h3⟩ := h; exact ⟨c, h1, h2, Vo.heap_below h3 hb⟩) | fail))); simp only [List.cons_append, List.nil_append])
  refine wpMildF_const (c := Value.bool (p && q)) ?_ ?_
  · intro wm hm
    have e1 := HE1.out wm
    have e2 := HE2.out wm
    cases p <;> cases q <;> go_simp
  simp only [List.cons_append, List.nil_append]
  (refine wpMildF_nil ?_; intro wm hm; simp only [mildAllF, MWord.blk_at, md_off, forall_eq, forall_exists_index, and_imp, and_true, true_implies, Act.put, List.setIfInBounds_toArray, List.set_cons_succ, List.set_cons_zero, forall_eq_apply_imp_iff])
  have B3 := B0.trans (hm.mono B0.size)
  have hzs := B3.size
  clear hm a0 a1 a2 a3 a4 a5 a6 a7 la
  go_wp2
  refine bodyPost_ret (by simp [results, Tryz.results127, go_sem]; try rfl) rfl ?_
  exact ⟨by rw [HR.out], by go_grown⟩
end Go.Proofs.YtlgghcffmnofdaaGreatDoor.Nu
