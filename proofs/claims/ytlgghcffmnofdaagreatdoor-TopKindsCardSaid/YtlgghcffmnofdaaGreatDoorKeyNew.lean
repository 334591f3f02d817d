/-
  key.New, as far as it looks at the version, the purpose and the length.
-/
import Derived.Test.YtlgghcffmnofdaaGreatDoorKeyA
namespace Go.Proofs.YtlgghcffmnofdaaGreatDoor.Ke
open Go Go.RowKit Go.Proofs.YtlgghcffmnofdaaGreatDoor.Cn
set_option linter.unusedSimpArgs false
set_option maxRecDepth 100000

abbrev key0 : Value := .agg #[.int .i64 0, .int .i64 0, .string ⟨#[]⟩]

/-- What New answers by version, purpose and length alone. -/
def newRes (v p : Int) (l : List UInt8) : Value := match sizeOf v p with
  | none => .tuple #[key0, .int .i64 7]
  | some z => if (l.length : Int) = z then .tuple #[keyV v p ⟨l.toArray⟩, .int .i64 0] else .tuple #[key0, .int .i64 3]

set_option maxHeartbeats 1600000 in
theorem new_early (v p : Int) (l : List UInt8) (bv : Value) (w : World) (hv : Bsl w bv l) (he : sizeOf v p = none ∨ ∃ z, sizeOf v p = some z ∧ ((l.length : Int) ≠ z ∨ p = 1)) :
    Calls Tryz.prog 17 #[.int .i64 v, .int .i64 p, bv] w fun e w' =>
      e = .returned (newRes v p l) ∧ Below w.heap.size w w' := by
  have hcv := fun w (h : Bsl w bv l) => conv_bsl h
  have HV := Lib.hid hv
  obtain ⟨a, cap, hbv, _, _⟩ := hv
  subst hbv
  have hc0 := conv_bsl (HV.out.below ((Below.refl w.heap.size w).alloc (Nat.le_refl _) (.cells #[.int .i64 0, .int .i64 0, .string ⟨#[]⟩] 28)))
  clear hcv
  have HE := Lib.hid he; clear he
  go_enter Tryz.func17, Tryz.ntmps17
  go_wp2
  (refine wp_region_mild 9 (by kernel_rfl) (by kernel_rfl) ?_; simp only [List.take_succ_cons, List.take_zero, List.drop_succ_cons, List.drop_zero])
  (apply wpMild_call; (focus (intro wm hm; have hrw := fun p h => Go.RowKit.Below.cell (p := p) hm h; go_simp; (exact sizes_any _))); (focus (first | exact Go.md_stays_eq _ | (intro v w w' h hb; first | exact Bsl.below h hb | exact Sizes.stays _ _ _ h hb | (obtain ⟨c, h1, h2, h3⟩ := h; exact ⟨c, h1, h2, Vo.heap_below h3 hb⟩) | fail))); simp only [List.cons_append, List.nil_append])
  (apply wpMild_const; (focus (intro wm hm; have hrw := fun p h => Go.RowKit.Below.cell (p := p) hm h; go_simp; exact rfl)); simp only [List.cons_append, List.nil_append])
  (apply wpMild_const; (focus (intro wm hm; have hrw := fun p h => Go.RowKit.Below.cell (p := p) hm h; go_simp; exact rfl)); simp only [List.cons_append, List.nil_append])
  (apply wpMild_const; (focus (intro wm hm; have hrw := fun p h => Go.RowKit.Below.cell (p := p) hm h; go_simp; (intro vm hvm; have hl := run_sizes hvm v p; go_simp; exact rfl))); simp only [List.cons_append, List.nil_append])
  repeat (apply wpMild_const; (focus (intro wm hm; have hrw := fun p h => Go.RowKit.Below.cell (p := p) hm h; go_simp; exact rfl)); simp only [List.cons_append, List.nil_append])
  (refine wpMild_nil ?_; intro wm hm; simp only [mildAll, forall_eq, forall_exists_index, and_imp, Act.put, List.setIfInBounds_toArray, List.set_cons_succ, List.set_cons_zero, forall_eq_apply_imp_iff])
  intro vm _
  have bel := ((((Below.refl w.heap.size w).alloc (Nat.le_refl _) (Obj.cells #[Value.int IntKind.i64 0, Value.int IntKind.i64 0, Value.string ⟨#[]⟩] 28)).alloc (by simp) (Obj.cells #[Value.int IntKind.i64 v, Value.int IntKind.i64 p, Value.string ⟨l.toArray⟩] 28)).trans (hm.mono (by simp; omega)))
  have k := fun p h => hm.cell (p := p) h
  have k2 := fun p h => hm.frozen (p := p) h
  clear hc0
  have c0 : wm.cell? ⟨w.heap.size, 0, none⟩ = some (.int .i64 0) := by rw [k _ (by simp <;> omega)]; simp
  have c1 : wm.cell? ⟨w.heap.size, 1, none⟩ = some (.int .i64 0) := by rw [k _ (by simp <;> omega)]; simp
  have c2 : wm.cell? ⟨w.heap.size, 2, none⟩ = some (.string ⟨#[]⟩) := by rw [k _ (by simp <;> omega)]; simp
  have d0 : wm.cell? ⟨w.heap.size + 1, 0, none⟩ = some (.int .i64 v) := by rw [k _ (by simp <;> omega)]; simp
  have d1 : wm.cell? ⟨w.heap.size + 1, 1, none⟩ = some (.int .i64 p) := by rw [k _ (by simp <;> omega)]; simp
  have d2 : wm.cell? ⟨w.heap.size + 1, 2, none⟩ = some (.string ⟨l.toArray⟩) := by rw [k _ (by simp <;> omega)]; simp
  have f0 : ∀ j, wm.frozen? ⟨w.heap.size, j, none⟩ = false := fun j => by rw [k2 _ (by simp <;> omega)]; simp
  clear k k2 hm
  have hr : newRes v p l = (match sizeOf v p with | none => .tuple #[key0, .int .i64 7] | some z => if (l.length : Int) = z then .tuple #[keyV v p ⟨l.toArray⟩, .int .i64 0] else .tuple #[key0, .int .i64 3]) := rfl
  rcases hs : sizeOf v p with _ | z
  · clear HE
    rw [hs] at hr
    have HR := Lib.hid hr; clear hr
    go_wp2
    refine bodyPost_ret (by simp [results, Tryz.results17, go_sem, c0, c1, c2]; try rfl) rfl ?_
    exact ⟨by rw [HR.out], by go_grown⟩
  · have hg : (some z).getD 0 = z := rfl
    rw [hs] at hr
    by_cases hl : (l.length : Int) = z
    · have hp : p = 1 := by
        obtain he := HE.out
        rw [hs] at he
        rcases he with he | ⟨z', he, h1 | h1⟩
        · cases he
        · exact absurd hl (by cases he; exact h1)
        · exact h1
      have hp3 : (p == 3) = false := by subst hp; rfl
      have hp2 : (p == 2) = false := by subst hp; rfl
      clear hp
      have hb1 : ((l.length : Int) != z) = false := by simp [hl]
      have HR := Lib.hid hr; clear hr
      clear HE
      go_wp2
      refine bodyPost_ret (by simp [results, Tryz.results17, go_sem, c0, c1, c2]; try rfl) rfl ?_
      exact ⟨by rw [HR.out]; simp only [if_pos hl], by go_grown⟩
    · have hb1 : ((l.length : Int) != z) = true := by simp [hl]
      have HR := Lib.hid hr; clear hr
      clear HE
      go_wp2
      refine bodyPost_ret (by simp [results, Tryz.results17, go_sem, c0, c1, c2]; try rfl) rfl ?_
      exact ⟨by rw [HR.out]; simp only [if_neg hl], by go_grown⟩
end Go.Proofs.YtlgghcffmnofdaaGreatDoor.Ke
