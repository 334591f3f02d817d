/-
  serial.Text, serial.Named; the law's fixed fact.
-/
import Derived.Test.YtlgghcffmnofdaaGreatDoorCoinAll
import Derived.Test.YtlgghcffmnofdaaGreatDoorSearchQ

namespace Go.Proofs.YtlgghcffmnofdaaGreatDoor.Ke
open Go Go.RowKit Go.Proofs.YtlgghcffmnofdaaGreatDoor.Cn
set_option linter.unusedSimpArgs false
set_option maxRecDepth 100000

theorem textK_31 (b : ByteArray) (w : World) (hw : Words w) (hg : Base w) (hs : b.size ≤ 1000000) :
    Calls Tryz.prog 19 #[keyV 3 1 b] w fun e w' => e = .returned (.string (⟨#[107, 51, 46, 108, 111, 99, 97, 108, 46]⟩ ++ ⟨(txt sg64 6 b.data.toList).toArray⟩)) ∧ Below w.heap.size w w' := by
  have hal := (Below.refl w.heap.size w).alloc (Nat.le_refl _) (Obj.cells #[Value.int IntKind.i64 3, Value.int IntKind.i64 1, Value.string b] 28)
  have hws := Lib.hid (hw.below hal)
  have hgs := Lib.hid (hg.below hal)
  have hln := txt_len alpha64 b.data.toList
  have hsl : b.data.toList.length ≤ 1000000 := hs
  have hcat : ¬ 9223372036854775807 < (9 : Nat) + (txt sg64 6 b.data.toList).length := by omega
  clear hal hln
  go_enter Tryz.func19, Tryz.ntmps19
  go_wp2
  (refine wp_region_mild 9 (by kernel_rfl) (by kernel_rfl) ?_; simp only [List.take_succ_cons, List.take_zero, List.drop_succ_cons, List.drop_zero])
  (apply wpMild_const; (focus (intro wm hm; have hrw := fun p h => Go.RowKit.Below.cell (p := p) hm h; go_simp; exact rfl)); simp only [List.cons_append, List.nil_append])
  (apply wpMild_const; (focus (intro wm hm; have hrw := fun p h => Go.RowKit.Below.cell (p := p) hm h; go_simp; exact rfl)); simp only [List.cons_append, List.nil_append])
  (apply wpMild_call; (focus (intro wm hm; have hrw := fun p h => Go.RowKit.Below.cell (p := p) hm h; go_simp; (exact Calls.mild (typedKind_any _ _ _ _)))); (focus (first | exact Go.md_stays_eq _ | (intro v w w' h hb; first | exact Bsl.below h hb | exact Sizes.stays _ _ _ h hb | (obtain ⟨c, h1, h2, h3⟩ := h; exact ⟨c, h1, h2, Vo.heap_below h3 hb⟩) | fail))); simp only [List.cons_append, List.nil_append])
  (apply wpMild_call; (focus (intro wm hm; have hrw := fun p h => Go.RowKit.Below.cell (p := p) hm h; go_simp; (exact Calls.mild (head_310 _ (hws.out.below hm))))); (focus (first | exact Go.md_stays_eq _ | (intro v w w' h hb; first | exact Bsl.below h hb | exact Sizes.stays _ _ _ h hb | (obtain ⟨c, h1, h2, h3⟩ := h; exact ⟨c, h1, h2, Vo.heap_below h3 hb⟩) | fail))); simp only [List.cons_append, List.nil_append])
  (apply wpMild_const; (focus (intro wm hm; have hrw := fun p h => Go.RowKit.Below.cell (p := p) hm h; go_simp; exact rfl)); simp only [List.cons_append, List.nil_append])
  (apply wpMild_call; (focus (intro wm hm; have hrw := fun p h => Go.RowKit.Below.cell (p := p) hm h; go_simp; (exact keyBytes_any _ _ _ _))); (focus (first | exact Go.md_stays_eq _ | (intro v w w' h hb; first | exact Bsl.below h hb | exact Sizes.stays _ _ _ h hb | (obtain ⟨c, h1, h2, h3⟩ := h; exact ⟨c, h1, h2, Vo.heap_below h3 hb⟩) | fail))); simp only [List.cons_append, List.nil_append])
  (apply wpMild_call; (focus (intro wm hm; have hrw := fun p h => Go.RowKit.Below.cell (p := p) hm h; go_simp; (exact fun v hv => Calls.mild (text_any _ v _ (hgs.out.below hm) hv hsl)))); (focus (first | exact Go.md_stays_eq _ | (intro v w w' h hb; first | exact Bsl.below h hb | exact Sizes.stays _ _ _ h hb | (obtain ⟨c, h1, h2, h3⟩ := h; exact ⟨c, h1, h2, Vo.heap_below h3 hb⟩) | fail))); simp only [List.cons_append, List.nil_append])
  (apply wpMild_const; (focus (intro wm hm; have hrw := fun p h => Go.RowKit.Below.cell (p := p) hm h; go_simp; exact rfl)); simp only [List.cons_append, List.nil_append])
  (apply wpMild_const; (focus (intro wm hm; have hrw := fun p h => Go.RowKit.Below.cell (p := p) hm h; go_simp; exact rfl)); simp only [List.cons_append, List.nil_append])
  (refine wpMild_nil ?_; intro wm hm; simp only [mildAll, forall_eq, forall_exists_index, and_imp, Act.put, List.setIfInBounds_toArray, List.set_cons_succ, List.set_cons_zero, forall_eq_apply_imp_iff])
  intro vm _
  have bel := ((Below.refl w.heap.size w).alloc (Nat.le_refl _) (Obj.cells #[Value.int IntKind.i64 3, Value.int IntKind.i64 1, Value.string b] 28)).trans (hm.mono (by simp))
  go_wp2
  go_returns
  exact ⟨rfl, bel⟩

theorem textK_41 (b : ByteArray) (w : World) (hw : Words w) (hg : Base w) (hs : b.size ≤ 1000000) :
    Calls Tryz.prog 19 #[keyV 4 1 b] w fun e w' => e = .returned (.string (⟨#[107, 52, 46, 108, 111, 99, 97, 108, 46]⟩ ++ ⟨(txt sg64 6 b.data.toList).toArray⟩)) ∧ Below w.heap.size w w' := by
  have hal := (Below.refl w.heap.size w).alloc (Nat.le_refl _) (Obj.cells #[Value.int IntKind.i64 4, Value.int IntKind.i64 1, Value.string b] 28)
  have hws := Lib.hid (hw.below hal)
  have hgs := Lib.hid (hg.below hal)
  have hln := txt_len alpha64 b.data.toList
  have hsl : b.data.toList.length ≤ 1000000 := hs
  have hcat : ¬ 9223372036854775807 < (9 : Nat) + (txt sg64 6 b.data.toList).length := by omega
  clear hal hln
  go_enter Tryz.func19, Tryz.ntmps19
  go_wp2
  (refine wp_region_mild 9 (by kernel_rfl) (by kernel_rfl) ?_; simp only [List.take_succ_cons, List.take_zero, List.drop_succ_cons, List.drop_zero])
  (apply wpMild_const; (focus (intro wm hm; have hrw := fun p h => Go.RowKit.Below.cell (p := p) hm h; go_simp; exact rfl)); simp only [List.cons_append, List.nil_append])
  (apply wpMild_const; (focus (intro wm hm; have hrw := fun p h => Go.RowKit.Below.cell (p := p) hm h; go_simp; exact rfl)); simp only [List.cons_append, List.nil_append])
  (apply wpMild_call; (focus (intro wm hm; have hrw := fun p h => Go.RowKit.Below.cell (p := p) hm h; go_simp; (exact Calls.mild (typedKind_any _ _ _ _)))); (focus (first | exact Go.md_stays_eq _ | (intro v w w' h hb; first | exact Bsl.below h hb | exact Sizes.stays _ _ _ h hb | (obtain ⟨c, h1, h2, h3⟩ := h; exact ⟨c, h1, h2, Vo.heap_below h3 hb⟩) | fail))); simp only [List.cons_append, List.nil_append])
  (apply wpMild_call; (focus (intro wm hm; have hrw := fun p h => Go.RowKit.Below.cell (p := p) hm h; go_simp; (exact Calls.mild (head_410 _ (hws.out.below hm))))); (focus (first | exact Go.md_stays_eq _ | (intro v w w' h hb; first | exact Bsl.below h hb | exact Sizes.stays _ _ _ h hb | (obtain ⟨c, h1, h2, h3⟩ := h; exact ⟨c, h1, h2, Vo.heap_below h3 hb⟩) | fail))); simp only [List.cons_append, List.nil_append])
  (apply wpMild_const; (focus (intro wm hm; have hrw := fun p h => Go.RowKit.Below.cell (p := p) hm h; go_simp; exact rfl)); simp only [List.cons_append, List.nil_append])
  (apply wpMild_call; (focus (intro wm hm; have hrw := fun p h => Go.RowKit.Below.cell (p := p) hm h; go_simp; (exact keyBytes_any _ _ _ _))); (focus (first | exact Go.md_stays_eq _ | (intro v w w' h hb; first | exact Bsl.below h hb | exact Sizes.stays _ _ _ h hb | (obtain ⟨c, h1, h2, h3⟩ := h; exact ⟨c, h1, h2, Vo.heap_below h3 hb⟩) | fail))); simp only [List.cons_append, List.nil_append])
  (apply wpMild_call; (focus (intro wm hm; have hrw := fun p h => Go.RowKit.Below.cell (p := p) hm h; go_simp; (exact fun v hv => Calls.mild (text_any _ v _ (hgs.out.below hm) hv hsl)))); (focus (first | exact Go.md_stays_eq _ | (intro v w w' h hb; first | exact Bsl.below h hb | exact Sizes.stays _ _ _ h hb | (obtain ⟨c, h1, h2, h3⟩ := h; exact ⟨c, h1, h2, Vo.heap_below h3 hb⟩) | fail))); simp only [List.cons_append, List.nil_append])
  (apply wpMild_const; (focus (intro wm hm; have hrw := fun p h => Go.RowKit.Below.cell (p := p) hm h; go_simp; exact rfl)); simp only [List.cons_append, List.nil_append])
  (apply wpMild_const; (focus (intro wm hm; have hrw := fun p h => Go.RowKit.Below.cell (p := p) hm h; go_simp; exact rfl)); simp only [List.cons_append, List.nil_append])
  (refine wpMild_nil ?_; intro wm hm; simp only [mildAll, forall_eq, forall_exists_index, and_imp, Act.put, List.setIfInBounds_toArray, List.set_cons_succ, List.set_cons_zero, forall_eq_apply_imp_iff])
  intro vm _
  have bel := ((Below.refl w.heap.size w).alloc (Nat.le_refl _) (Obj.cells #[Value.int IntKind.i64 4, Value.int IntKind.i64 1, Value.string b] 28)).trans (hm.mono (by simp))
  go_wp2
  go_returns
  exact ⟨rfl, bel⟩

theorem textK_42 (b : ByteArray) (w : World) (hw : Words w) (hg : Base w) (hs : b.size ≤ 1000000) :
    Calls Tryz.prog 19 #[keyV 4 2 b] w fun e w' => e = .returned (.string (⟨#[107, 52, 46, 115, 101, 99, 114, 101, 116, 46]⟩ ++ ⟨(txt sg64 6 b.data.toList).toArray⟩)) ∧ Below w.heap.size w w' := by
  have hal := (Below.refl w.heap.size w).alloc (Nat.le_refl _) (Obj.cells #[Value.int IntKind.i64 4, Value.int IntKind.i64 2, Value.string b] 28)
  have hws := Lib.hid (hw.below hal)
  have hgs := Lib.hid (hg.below hal)
  have hln := txt_len alpha64 b.data.toList
  have hsl : b.data.toList.length ≤ 1000000 := hs
  have hcat : ¬ 9223372036854775807 < (10 : Nat) + (txt sg64 6 b.data.toList).length := by omega
  clear hal hln
  go_enter Tryz.func19, Tryz.ntmps19
  go_wp2
  (refine wp_region_mild 9 (by kernel_rfl) (by kernel_rfl) ?_; simp only [List.take_succ_cons, List.take_zero, List.drop_succ_cons, List.drop_zero])
  (apply wpMild_const; (focus (intro wm hm; have hrw := fun p h => Go.RowKit.Below.cell (p := p) hm h; go_simp; exact rfl)); simp only [List.cons_append, List.nil_append])
  (apply wpMild_const; (focus (intro wm hm; have hrw := fun p h => Go.RowKit.Below.cell (p := p) hm h; go_simp; exact rfl)); simp only [List.cons_append, List.nil_append])
  (apply wpMild_call; (focus (intro wm hm; have hrw := fun p h => Go.RowKit.Below.cell (p := p) hm h; go_simp; (exact Calls.mild (typedKind_any _ _ _ _)))); (focus (first | exact Go.md_stays_eq _ | (intro v w w' h hb; first | exact Bsl.below h hb | exact Sizes.stays _ _ _ h hb | (obtain ⟨c, h1, h2, h3⟩ := h; exact ⟨c, h1, h2, Vo.heap_below h3 hb⟩) | fail))); simp only [List.cons_append, List.nil_append])
  (apply wpMild_call; (focus (intro wm hm; have hrw := fun p h => Go.RowKit.Below.cell (p := p) hm h; go_simp; (exact Calls.mild (head_420 _ (hws.out.below hm))))); (focus (first | exact Go.md_stays_eq _ | (intro v w w' h hb; first | exact Bsl.below h hb | exact Sizes.stays _ _ _ h hb | (obtain ⟨c, h1, h2, h3⟩ := h; exact ⟨c, h1, h2, Vo.heap_below h3 hb⟩) | fail))); simp only [List.cons_append, List.nil_append])
  (apply wpMild_const; (focus (intro wm hm; have hrw := fun p h => Go.RowKit.Below.cell (p := p) hm h; go_simp; exact rfl)); simp only [List.cons_append, List.nil_append])
  (apply wpMild_call; (focus (intro wm hm; have hrw := fun p h => Go.RowKit.Below.cell (p := p) hm h; go_simp; (exact keyBytes_any _ _ _ _))); (focus (first | exact Go.md_stays_eq _ | (intro v w w' h hb; first | exact Bsl.below h hb | exact Sizes.stays _ _ _ h hb | (obtain ⟨c, h1, h2, h3⟩ := h; exact ⟨c, h1, h2, Vo.heap_below h3 hb⟩) | fail))); simp only [List.cons_append, List.nil_append])
  (apply wpMild_call; (focus (intro wm hm; have hrw := fun p h => Go.RowKit.Below.cell (p := p) hm h; go_simp; (exact fun v hv => Calls.mild (text_any _ v _ (hgs.out.below hm) hv hsl)))); (focus (first | exact Go.md_stays_eq _ | (intro v w w' h hb; first | exact Bsl.below h hb | exact Sizes.stays _ _ _ h hb | (obtain ⟨c, h1, h2, h3⟩ := h; exact ⟨c, h1, h2, Vo.heap_below h3 hb⟩) | fail))); simp only [List.cons_append, List.nil_append])
  (apply wpMild_const; (focus (intro wm hm; have hrw := fun p h => Go.RowKit.Below.cell (p := p) hm h; go_simp; exact rfl)); simp only [List.cons_append, List.nil_append])
  (apply wpMild_const; (focus (intro wm hm; have hrw := fun p h => Go.RowKit.Below.cell (p := p) hm h; go_simp; exact rfl)); simp only [List.cons_append, List.nil_append])
  (refine wpMild_nil ?_; intro wm hm; simp only [mildAll, forall_eq, forall_exists_index, and_imp, Act.put, List.setIfInBounds_toArray, List.set_cons_succ, List.set_cons_zero, forall_eq_apply_imp_iff])
  intro vm _
  have bel := ((Below.refl w.heap.size w).alloc (Nat.le_refl _) (Obj.cells #[Value.int IntKind.i64 4, Value.int IntKind.i64 2, Value.string b] 28)).trans (hm.mono (by simp))
  go_wp2
  go_returns
  exact ⟨rfl, bel⟩

theorem textK_43 (b : ByteArray) (w : World) (hw : Words w) (hg : Base w) (hs : b.size ≤ 1000000) :
    Calls Tryz.prog 19 #[keyV 4 3 b] w fun e w' => e = .returned (.string (⟨#[107, 52, 46, 112, 117, 98, 108, 105, 99, 46]⟩ ++ ⟨(txt sg64 6 b.data.toList).toArray⟩)) ∧ Below w.heap.size w w' := by
  have hal := (Below.refl w.heap.size w).alloc (Nat.le_refl _) (Obj.cells #[Value.int IntKind.i64 4, Value.int IntKind.i64 3, Value.string b] 28)
  have hws := Lib.hid (hw.below hal)
  have hgs := Lib.hid (hg.below hal)
  have hln := txt_len alpha64 b.data.toList
  have hsl : b.data.toList.length ≤ 1000000 := hs
  have hcat : ¬ 9223372036854775807 < (10 : Nat) + (txt sg64 6 b.data.toList).length := by omega
  clear hal hln
  go_enter Tryz.func19, Tryz.ntmps19
  go_wp2
  (refine wp_region_mild 9 (by kernel_rfl) (by kernel_rfl) ?_; simp only [List.take_succ_cons, List.take_zero, List.drop_succ_cons, List.drop_zero])
  (apply wpMild_const; (focus (intro wm hm; have hrw := fun p h => Go.RowKit.Below.cell (p := p) hm h; go_simp; exact rfl)); simp only [List.cons_append, List.nil_append])
  (apply wpMild_const; (focus (intro wm hm; have hrw := fun p h => Go.RowKit.Below.cell (p := p) hm h; go_simp; exact rfl)); simp only [List.cons_append, List.nil_append])
  (apply wpMild_call; (focus (intro wm hm; have hrw := fun p h => Go.RowKit.Below.cell (p := p) hm h; go_simp; (exact Calls.mild (typedKind_any _ _ _ _)))); (focus (first | exact Go.md_stays_eq _ | (intro v w w' h hb; first | exact Bsl.below h hb | exact Sizes.stays _ _ _ h hb | (obtain ⟨c, h1, h2, h3⟩ := h; exact ⟨c, h1, h2, Vo.heap_below h3 hb⟩) | fail))); simp only [List.cons_append, List.nil_append])
  (apply wpMild_call; (focus (intro wm hm; have hrw := fun p h => Go.RowKit.Below.cell (p := p) hm h; go_simp; (exact Calls.mild (head_430 _ (hws.out.below hm))))); (focus (first | exact Go.md_stays_eq _ | (intro v w w' h hb; first | exact Bsl.below h hb | exact Sizes.stays _ _ _ h hb | (obtain ⟨c, h1, h2, h3⟩ := h; exact ⟨c, h1, h2, Vo.heap_below h3 hb⟩) | fail))); simp only [List.cons_append, List.nil_append])
  (apply wpMild_const; (focus (intro wm hm; have hrw := fun p h => Go.RowKit.Below.cell (p := p) hm h; go_simp; exact rfl)); simp only [List.cons_append, List.nil_append])
  (apply wpMild_call; (focus (intro wm hm; have hrw := fun p h => Go.RowKit.Below.cell (p := p) hm h; go_simp; (exact keyBytes_any _ _ _ _))); (focus (first | exact Go.md_stays_eq _ | (intro v w w' h hb; first | exact Bsl.below h hb | exact Sizes.stays _ _ _ h hb | (obtain ⟨c, h1, h2, h3⟩ := h; exact ⟨c, h1, h2, Vo.heap_below h3 hb⟩) | fail))); simp only [List.cons_append, List.nil_append])
  (apply wpMild_call; (focus (intro wm hm; have hrw := fun p h => Go.RowKit.Below.cell (p := p) hm h; go_simp; (exact fun v hv => Calls.mild (text_any _ v _ (hgs.out.below hm) hv hsl)))); (focus (first | exact Go.md_stays_eq _ | (intro v w w' h hb; first | exact Bsl.below h hb | exact Sizes.stays _ _ _ h hb | (obtain ⟨c, h1, h2, h3⟩ := h; exact ⟨c, h1, h2, Vo.heap_below h3 hb⟩) | fail))); simp only [List.cons_append, List.nil_append])
  (apply wpMild_const; (focus (intro wm hm; have hrw := fun p h => Go.RowKit.Below.cell (p := p) hm h; go_simp; exact rfl)); simp only [List.cons_append, List.nil_append])
  (apply wpMild_const; (focus (intro wm hm; have hrw := fun p h => Go.RowKit.Below.cell (p := p) hm h; go_simp; exact rfl)); simp only [List.cons_append, List.nil_append])
  (refine wpMild_nil ?_; intro wm hm; simp only [mildAll, forall_eq, forall_exists_index, and_imp, Act.put, List.setIfInBounds_toArray, List.set_cons_succ, List.set_cons_zero, forall_eq_apply_imp_iff])
  intro vm _
  have bel := ((Below.refl w.heap.size w).alloc (Nat.le_refl _) (Obj.cells #[Value.int IntKind.i64 4, Value.int IntKind.i64 3, Value.string b] 28)).trans (hm.mono (by simp))
  go_wp2
  go_returns
  exact ⟨rfl, bel⟩

/-- The name's version, purpose and error. -/
def namedRes (R : Option (Int × Int × List UInt8)) : Int × Int × Int :=
  match R with
  | none => (0, 0, 7)
  | some (v, p, r) => if (rdv sg64 6 ⟨r.toArray⟩).2 = 0 then (if (rdv sg64 6 ⟨r.toArray⟩).1.length = 33 then (v, p, 0) else (0, 0, 3)) else (0, 0, (rdv sg64 6 ⟨r.toArray⟩).2)

set_option maxHeartbeats 1600000 in
theorem named_any (s : ByteArray) (w : World) (hw : Words w) (hg : Base w) (hs : s.size ≤ 1000000) :
    Calls Tryz.prog 20 #[.string s] w fun e w' => e = .returned (.tuple #[.int .i64 (namedRes (findHead nameHeads s.data.toList)).1, .int .i64 (namedRes (findHead nameHeads s.data.toList)).2.1, .int .i64 (namedRes (findHead nameHeads s.data.toList)).2.2]) ∧ Below w.heap.size w w' := by
  have HS := Lib.hid (search_names s w hw hg hs)
  generalize findHead nameHeads s.data.toList = R at HS ⊢
  go_enter Tryz.func20, Tryz.ntmps20
  go_wp2_with fail
  refine HS.out.mono ?_
  rintro e w1 ⟨bv, rfl, hbv, hb1⟩
  obtain ⟨a, cap, rfl, _, _⟩ := hbv
  rcases R with _ | ⟨v, p, r⟩
  · have hk : sK none = kindV 0 0 := rfl
    have hB : (sB none).length = 0 := rfl
    have hE : sE none = 7 := rfl
    rw [hk, hB, hE]
    go_wp2
    go_returns
    exact ⟨rfl, by have hz := hb1.size; go_grown⟩
  · have hk : sK (some (v, p, r)) = kindV v p := rfl
    have hB : (sB (some (v, p, r))).length = (rdv sg64 6 ⟨r.toArray⟩).1.length := rfl
    have hE : sE (some (v, p, r)) = ((rdv sg64 6 ⟨r.toArray⟩).2 : Int) := rfl
    have hN : namedRes (some (v, p, r)) = (if (rdv sg64 6 ⟨r.toArray⟩).2 = 0 then (if (rdv sg64 6 ⟨r.toArray⟩).1.length = 33 then (v, p, 0) else (0, 0, 3)) else (0, 0, ((rdv sg64 6 ⟨r.toArray⟩).2 : Int))) := rfl
    rw [hk, hB, hE]
    generalize (rdv sg64 6 ⟨r.toArray⟩) = q at hN ⊢
    obtain ⟨l, c⟩ := q
    simp only at hN ⊢
    have HN := Lib.hid hN; clear hN hk hB hE
    by_cases hc : c = 0
    · subst hc
      by_cases hl : l.length = 33
      · have h1 : ((l.length : Int) != 33) = false := by simp; omega
        go_wp2
        go_quiet (fail)
        go_wp2
        go_returns
        exact ⟨by rw [HN.out]; simp [hl], Vo.below_drewN (by have hz := hb1.size; go_grown) _⟩
      · have h1 : ((l.length : Int) != 33) = true := by simp; omega
        go_wp2
        go_returns
        exact ⟨by rw [HN.out]; simp [hl], by have hz := hb1.size; go_grown⟩
    · have h1 : ((c : Int) == 0) = false := by simp; omega
      have h2 : ((c : Int) != 0) = true := by simp; omega
      go_wp2
      go_returns
      exact ⟨by rw [HN.out]; simp [hc], by have hz := hb1.size; go_grown⟩

end Go.Proofs.YtlgghcffmnofdaaGreatDoor.Ke
