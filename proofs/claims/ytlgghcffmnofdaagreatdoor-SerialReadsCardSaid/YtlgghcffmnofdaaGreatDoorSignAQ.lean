/-
  The walks of sign: read, Good.
-/
import Derived.Test.YtlgghcffmnofdaaGreatDoorCurveGQ

namespace Go.Proofs.YtlgghcffmnofdaaGreatDoor.Nu
open Go Go.RowKit Go.Proofs.YtlgghcffmnofdaaGreatDoor.Cn
set_option linter.unusedSimpArgs false
set_option maxRecDepth 100000

theorem wpList_moveX {P : Program} {ops : Array Oper} {rest : List Oper} {o : Oper} {a : Act} {Q : Exit → Act → World → Prop} {w : World} {x : Operand} {v : Value} (hg : o.guard = none) (hop : o.op = .move x)
    (hx : a.eval x = v) (hK : wpList P ops Q rest (a.put o.dst v) w) : wpList P ops Q (o :: rest) a w := by
  refine wpList_plain hg fun K hK' => ?_
  unfold Oper.wp
  simp [execOp, hop, hx]
  exact hK' _ _ hK

set_option maxHeartbeats 4000000 in
theorem sread_ex (l : List UInt8) : ∃ a b c : Nat, ∀ v w, Bsl w v l → Calls Tryz.prog 84 #[v] w fun e w' => e = .returned (.tuple #[pointV a b, .int .i64 c]) ∧ Below w.heap.size w w' := by
  have HRD : Hid (∀ v w, Bsl w v l → Calls Tryz.prog 102 #[v] w fun e w' => e = .returned (.tuple #[pointV (rdX l) (rdY l), .int .i64 (rdE l)]) ∧ Below w.heap.size w w') := Lib.hid (fun v w hv => read_any l v w hv)
  have HSM := Lib.hid (fun w => small_point (rdX l) (rdY l) w (rdX_lt l) (rdY_lt l))
  generalize rdX l = x at *
  generalize rdY l = y at *
  generalize rdE l = c at *
  generalize smallB x y = sm at *
  have main : ∀ r : Nat × Nat × Nat, (if c = 0 then (if sm = true then (0, 0, 5) else (x, y, c)) else (x, y, c)) = r → ∀ v w, Bsl w v l → Calls Tryz.prog 84 #[v] w fun e w' => e = .returned (.tuple #[pointV r.1 r.2.1, .int .i64 r.2.2]) ∧ Below w.heap.size w w' := by
    intro r hr v w hv
    have HR := Lib.hid hr
    have HV := Lib.hid hv
    clear hr hv
    go_enter Tryz.func84, Tryz.ntmps84
    go_upto_region 1 with (fail)
    refine wp_start1 ?_
    intro w0 B0 hO
    have O0 := wdz8 hO
    clear hO
    have HV0 := Lib.hid (HV.out.below B0)
    (refine wp_region_mildS 6 [false, false, false, false, false, true] (by kernel_rfl) ?_; simp only [List.take_succ_cons, List.take_zero, List.drop_succ_cons, List.drop_zero])
    (apply wpMildF_const; (focus (intro wm hm; have hrw := fun p h => Go.RowKit.Below.cell (p := p) hm h; go_simp; exact rfl)); simp only [List.cons_append, List.nil_append])
    (apply wpMildF_call; (focus (intro wm hm; have hrw := fun p h => Go.RowKit.Below.cell (p := p) hm h; go_simp; (exact Calls.mild (HRD.out _ _ (HV0.out.below hm))))); (focus (first | exact Go.md_stays_eq _ | (intro v w w' h hb; first | exact Bsl.below h hb | exact Sizes.stays _ _ _ h hb | (obtain ⟨c, h1, h2, h3⟩ := h; exact ⟨c, h1, h2, Vo.heap_below h3 hb⟩) | fail))); simp only [List.cons_append, List.nil_append])
    (apply wpMildF_const; (focus (intro wm hm; have hrw := fun p h => Go.RowKit.Below.cell (p := p) hm h; go_simp; exact rfl)); simp only [List.cons_append, List.nil_append])
    (apply wpMildF_const; (focus (intro wm hm; have hrw := fun p h => Go.RowKit.Below.cell (p := p) hm h; go_simp; exact rfl)); simp only [List.cons_append, List.nil_append])
    (apply wpMildF_const; (focus (intro wm hm; have hrw := fun p h => Go.RowKit.Below.cell (p := p) hm h; go_simp; exact rfl)); simp only [List.cons_append, List.nil_append])
    (apply wpMildF_new; (focus (intro wm hm; have hrw := fun p h => Go.RowKit.Below.cell (p := p) hm h; go_simp; first | exact rfl | exact ⟨rfl, rfl⟩)); simp only [List.cons_append, List.nil_append])
    (refine wpMildF_nil ?_; intro wm hm; simp only [mildAllF, MWord.blk_at, md_off, forall_eq, forall_exists_index, and_imp, and_true, true_implies, Act.put, List.setIfInBounds_toArray, List.set_cons_succ, List.set_cons_zero, forall_eq_apply_imp_iff])
    intro a a_l a_h
    have Za := wdz8 a_h
    have hga : w.heap.size < a := Nat.lt_of_lt_of_le O0.lt a_l
    refine wpList_storeX (run_storeQ x y Za) rfl rfl rfl rfl ?_
    simp only [Act.put]
    have B1 := belQ (B0.trans (hm.mono B0.size)) x y (Nat.le_of_lt hga)
    have O1 := (O0.below hm).farQ (c := a) x y (by omega)
    have D1 := Za.allQ x y
    generalize stQ wm a x y = w1 at *
    clear hm Za a_h a_l B0 O0 HV0 HV HRD
    by_cases hc : c = 0
    · subst hc
      obtain ⟨d0, d1, d2, d3, d4, d5, d6, d7, ld⟩ := wpo D1
      go_wp2_with fail
      refine (HSM.out _).mono ?_
      rintro e w2 ⟨rfl, hb2⟩
      have O2 := O1.below hb2
      have B2 := B1.trans (hb2.mono B1.size)
      have D2 := D1.below hb2
      clear d0 d1 d2 d3 d4 d5 d6 d7 ld hb2 O1 B1 D1 HSM
      cases sm with
      | true =>
        have HR2 : Hid ((0, 0, 5) = r) := Lib.hid (by simpa [Hid] using HR)
        clear HR
        obtain ⟨o0, o1, o2, o3, o4, o5, o6, o7, lo, fo⟩ := wz8 O2
        have hzs := B2.size
        go_wp2
        refine bodyPost_ret (by simp [results, Tryz.results84, go_sem, o0, o1, o2, o3, o4, o5, o6, o7]; try rfl) rfl ?_
        exact ⟨by rw [← HR2.out]; rfl, by go_grown⟩
      | false =>
        have HR2 : Hid ((x, y, 0) = r) := Lib.hid (by simpa [Hid] using HR)
        clear HR
        go_upto_region 4 with (fail)
        refine wp_region_lit ?_
        refine wpList_loadX (run_loadQ D2) rfl rfl rfl ?_
        refine wpList_moveX rfl rfl rfl ?_
        refine wpList_storeX (run_storeQ x y O2) rfl rfl rfl rfl ?_
        simp only [Act.put]
        have O8 := O2.allQ x y
        have B8 := belQ B2 x y (Nat.le_refl _)
        generalize stQ w2 w.heap.size x y = w8 at *
        clear O2 B2 D2
        obtain ⟨o0, o1, o2, o3, o4, o5, o6, o7, lo⟩ := wpo O8
        have hzs := B8.size
        go_wp2
        refine bodyPost_ret (by simp [results, Tryz.results84, go_sem, o0, o1, o2, o3, o4, o5, o6, o7]; try rfl) rfl ?_
        exact ⟨by rw [← HR2.out]; try rfl, by go_grown⟩
    · rw [if_neg hc] at HR
      have hcb : ((c : Int) == 0) = false := by simp; omega
      clear hc
      go_upto_region 4 with (fail)
      refine wp_region_lit ?_
      refine wpList_loadX (run_loadQ D1) rfl rfl rfl ?_
      refine wpList_moveX rfl rfl rfl ?_
      refine wpList_storeX (run_storeQ x y O1) rfl rfl rfl rfl ?_
      simp only [Act.put]
      have O8 := O1.allQ x y
      have B8 := belQ B1 x y (Nat.le_refl _)
      generalize stQ w1 w.heap.size x y = w8 at *
      clear O1 B1 D1
      obtain ⟨o0, o1, o2, o3, o4, o5, o6, o7, lo⟩ := wpo O8
      have hzs := B8.size
      go_wp2
      refine bodyPost_ret (by simp [results, Tryz.results84, go_sem, o0, o1, o2, o3, o4, o5, o6, o7]; try rfl) rfl ?_
      exact ⟨by rw [← HR.out]; try rfl, by go_grown⟩
  exact ⟨_, _, _, main _ rfl⟩

theorem good_ex (l : List UInt8) : ∃ c : Nat, ∀ v w, Bsl w v l → Calls Tryz.prog 42 #[v] w fun e w' => e = .returned (.int .i64 c) ∧ Below w.heap.size w w' := by
  obtain ⟨x, y, c, h⟩ := sread_ex l
  refine ⟨c, fun v w hv => ?_⟩
  have HRD := Lib.hid h
  have HV := Lib.hid hv
  clear h hv
  go_enter Tryz.func42, Tryz.ntmps42
  go_upto_region 1 with (fail)
  (refine wp_region_mildS 6 [false, false, false, false, false, true] (by kernel_rfl) ?_; simp only [List.take_succ_cons, List.take_zero, List.drop_succ_cons, List.drop_zero])
  (apply wpMildF_const; (focus (intro wm hm; have hrw := fun p h => Go.RowKit.Below.cell (p := p) hm h; go_simp; exact rfl)); simp only [List.cons_append, List.nil_append])
  (apply wpMildF_call; (focus (intro wm hm; have hrw := fun p h => Go.RowKit.Below.cell (p := p) hm h; go_simp; (exact Calls.mild (HRD.out _ _ (HV.out.below hm))))); (focus (first | exact Go.md_stays_eq _ | (intro v w w' h hb; first | exact Bsl.below h hb | exact Sizes.stays _ _ _ h hb | (obtain ⟨c, h1, h2, h3⟩ := h; exact ⟨c, h1, h2, Vo.heap_below h3 hb⟩) | fail))); simp only [List.cons_append, List.nil_append])
  (apply wpMildF_const; (focus (intro wm hm; have hrw := fun p h => Go.RowKit.Below.cell (p := p) hm h; go_simp; exact rfl)); simp only [List.cons_append, List.nil_append])
  (apply wpMildF_const; (focus (intro wm hm; have hrw := fun p h => Go.RowKit.Below.cell (p := p) hm h; go_simp; exact rfl)); simp only [List.cons_append, List.nil_append])
  (apply wpMildF_const; (focus (intro wm hm; have hrw := fun p h => Go.RowKit.Below.cell (p := p) hm h; go_simp; exact rfl)); simp only [List.cons_append, List.nil_append])
  (apply wpMildF_new; (focus (intro wm hm; have hrw := fun p h => Go.RowKit.Below.cell (p := p) hm h; go_simp; first | exact rfl | exact ⟨rfl, rfl⟩)); simp only [List.cons_append, List.nil_append])
  (refine wpMildF_nil ?_; intro wm hm; simp only [mildAllF, MWord.blk_at, md_off, forall_eq, forall_exists_index, and_imp, and_true, true_implies, Act.put, List.setIfInBounds_toArray, List.set_cons_succ, List.set_cons_zero, forall_eq_apply_imp_iff])
  intro a a_l a_h
  have Za := wdz8 a_h
  refine wpList_storeX (run_storeQ x y Za) rfl rfl rfl rfl ?_
  simp only [Act.put]
  have B1 := belQ hm x y a_l
  generalize stQ wm a x y = w1 at *
  clear hm Za a_h a_l
  have hzs := B1.size
  go_wp2
  refine bodyPost_ret (by simp [results, Tryz.results42, go_sem]; try rfl) rfl ?_
  exact ⟨rfl, by go_grown⟩
/-- What is wrong with a public key (none evaluates it). -/
noncomputable def goodN (l : List UInt8) : Nat := Classical.choose (good_ex l)
theorem good_any (l : List UInt8) (v : Value) (w : World) (hv : Bsl w v l) : Calls Tryz.prog 42 #[v] w fun e w' => e = .returned (.int .i64 (goodN l)) ∧ Below w.heap.size w w' := Classical.choose_spec (good_ex l) v w hv
end Go.Proofs.YtlgghcffmnofdaaGreatDoor.Nu
