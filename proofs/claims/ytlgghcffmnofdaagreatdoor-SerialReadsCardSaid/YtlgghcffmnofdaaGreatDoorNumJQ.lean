/-
  The walks of residue: Root.
-/
import Derived.Deep.DeepCutAuto
import Derived.Test.YtlgghcffmnofdaaGreatDoorNumGQ
import Derived.Test.YtlgghcffmnofdaaGreatDoorNumHQ

namespace Go.Proofs.YtlgghcffmnofdaaGreatDoor.Nu
open Go Go.RowKit Go.Proofs.YtlgghcffmnofdaaGreatDoor.Cn
set_option linter.unusedSimpArgs false
set_option maxRecDepth 100000

def e8 : Nat := 7237005577332262213973186563042994240829374041602535252466099000494570602494
def q4 : Nat := 14474011154664524427946373126085988481658748083205070504932198000989141204987
theorem lim_e8 : lim e8 0 = 18446744073709551614 ∧ lim e8 1 = 18446744073709551615 ∧ lim e8 2 = 18446744073709551615 ∧ lim e8 3 = 1152921504606846975 := by decide +kernel
theorem lim_q4 : lim q4 0 = 18446744073709551611 ∧ lim q4 1 = 18446744073709551615 ∧ lim q4 2 = 18446744073709551615 ∧ lim q4 3 = 2305843009213693951 := by decide +kernel
theorem num_e8 : numV e8 = .agg #[.int .u64 18446744073709551614, .int .u64 18446744073709551615, .int .u64 18446744073709551615, .int .u64 1152921504606846975] := by
  obtain ⟨h0, h1, h2, h3⟩ := lim_e8
  unfold numV w64
  rw [h0, h1, h2, h3]
  rfl
theorem num_q4 : numV q4 = .agg #[.int .u64 18446744073709551611, .int .u64 18446744073709551615, .int .u64 18446744073709551615, .int .u64 2305843009213693951] := by
  obtain ⟨h0, h1, h2, h3⟩ := lim_q4
  unfold numV w64
  rw [h0, h1, h2, h3]
  rfl

/-- What Root tries first, and then. -/
def root1 (a : Nat) : Nat := powN a e8
def root2 (a : Nat) : Nat := if mulN (root1 a) (root1 a) = a then root1 a else mulN (root1 a) (powN 2 q4)
theorem root1_lt (a : Nat) : root1 a < 2 ^ 256 := powN_lt _ _
theorem root2_lt (a : Nat) : root2 a < 2 ^ 256 := by unfold root2; split; exact root1_lt a; exact mulN_lt _ _
/-- The even root. -/
def rootE (r : Nat) : Nat := if r % 2 = 1 then subN 0 r else r

structure ERnd (w : World) (a p r : Nat) (wr : World) : Prop where
  bel : Below w.heap.size w wr
  ra : Wd wr w.heap.size 4 (lim a)
  ro : Wd wr (w.heap.size + 1) 4 (fun _ => 0)
  rp : Wd wr p 4 (lim r)
  gp : w.heap.size + 1 < p
theorem ERnd.below {w wr w' : World} {a p r : Nat} (h : ERnd w a p r wr) (hb : Below wr.heap.size wr w') : ERnd w a p r w' :=
  ⟨h.bel.trans (hb.mono h.bel.size), h.ra.below hb, h.ro.below hb, h.rp.below hb, h.gp⟩
theorem ERnd.set {w wr : World} {a p r : Nat} (h : ERnd w a p r wr) (n : Nat) : ERnd w a p n ((((wr.setCell ⟨p, 0, none⟩ (w64 (lim n 0))).setCell ⟨p, 1, none⟩ (w64 (lim n 1))).setCell ⟨p, 2, none⟩ (w64 (lim n 2))).setCell ⟨p, 3, none⟩ (w64 (lim n 3))) := by
  have g := h.gp
  exact ⟨bel_all h.bel (by omega), (((h.ra.far _ (by omega)).far _ (by omega)).far _ (by omega)).far _ (by omega), (((h.ro.far _ (by omega)).far _ (by omega)).far _ (by omega)).far _ (by omega), h.rp.all, g⟩

def rootV (a : Nat) : Value := if mulN (root2 a) (root2 a) = a then .tuple #[numV (rootE (root2 a)), .bool true] else .tuple #[numV 0, .bool false]
abbrev rowE8 : Obj := .cells #[.int .u64 18446744073709551614, .int .u64 18446744073709551615, .int .u64 18446744073709551615, .int .u64 1152921504606846975] 150

set_option maxHeartbeats 8000000 in
theorem root_any (z0 : Nat) (w : World) (ha : z0 < 2 ^ 256) :
    Calls Tryz.prog 198 #[numV z0] w fun e w' => e = .returned (rootV (z0 % pp)) ∧ Below w.heap.size w w' := by
  have HS := Lib.hid (fun w => small_any z0 w ha)
  have HP : Hid (∀ w, Calls Tryz.prog 203 #[numV (z0 % pp), .agg #[.int .u64 18446744073709551614, .int .u64 18446744073709551615, .int .u64 18446744073709551615, .int .u64 1152921504606846975]] w fun e w' => e = .returned (numV (root1 (z0 % pp))) ∧ Below w.heap.size w w') := Lib.hid (fun w => by
    have h := power_any (z0 % pp) e8 w (mod_lt2 z0) (by decide)
    rw [num_e8] at h
    exact h)
  have HM := Lib.hid (fun w => muln_any (root1 (z0 % pp)) (root1 (z0 % pp)) w (root1_lt _) (root1_lt _))
  have HA := Lib.hid (mod_lt2 z0)
  clear ha
  generalize z0 % pp = a at *
  go_enter Tryz.func198, Tryz.ntmps198
  go_wp2_with fail
  refine (HS.out _).mono ?_
  rintro e w1 ⟨rfl, hb1⟩
  have bel0 := ((Below.refl w.heap.size w).alloc (Nat.le_refl _) (row4 z0)).alloc (by simp) zero4
  have bel1 := bel0.trans (hb1.mono bel0.size)
  have A1 := ((wd_row (heap_alloc_new w (row4 z0))).below ((Below.refl _ _).alloc (Nat.le_refl _) zero4)).below hb1
  have O1 := (wd_zero (heap_alloc_new (w.alloc (row4 z0)) zero4)).below hb1
  rw [show (w.alloc (row4 z0)).heap.size = w.heap.size + 1 by simp] at O1
  have a0' := A1.at_ 0 (by omega)
  have a1' := A1.at_ 1 (by omega)
  have a2' := A1.at_ 2 (by omega)
  have a3' := A1.at_ 3 (by omega)
  have la := A1.lt
  have fa := A1.thaw
  clear bel0 hb1
  go_wp2_with fail
  refine (HP.out _).mono ?_
  rintro e w2 ⟨rfl, hb2⟩
  have A2 := A1.all (n := a)
  have O2 := (((O1.far (c := w.heap.size) (j := 0) (w64 (lim a 0)) (by omega)).far (c := w.heap.size) (j := 1) (w64 (lim a 1)) (by omega)).far (c := w.heap.size) (j := 2) (w64 (lim a 2)) (by omega)).far (c := w.heap.size) (j := 3) (w64 (lim a 3)) (by omega)
  have bel2 := bel_all (n := a) bel1 (Nat.le_refl w.heap.size)
  have hba := (Below.refl _ ((((w1.setCell ⟨w.heap.size, 0, none⟩ (w64 (lim a 0))).setCell ⟨w.heap.size, 1, none⟩ (w64 (lim a 1))).setCell ⟨w.heap.size, 2, none⟩ (w64 (lim a 2))).setCell ⟨w.heap.size, 3, none⟩ (w64 (lim a 3)))).alloc (Nat.le_refl _) rowE8
  have bel3 := bel2.trans (hba.mono bel2.size)
  have A3 := (A2.below hba).below hb2
  have O3 := (O2.below hba).below hb2
  have bel4 := bel3.trans (hb2.mono bel3.size)
  have hbr := (Below.refl w2.heap.size w2).alloc (Nat.le_refl _) (row4 (root1 a))
  have lo3 := O3.lt
  have RN : ERnd w a w2.heap.size (root1 a) (w2.alloc (row4 (root1 a))) := ⟨bel4.trans (hbr.mono bel4.size), A3.below hbr, O3.below hbr, wd_row (heap_alloc_new w2 _), lo3⟩
  clear la
  have a0 := A3.at_ 0 (by omega)
  have a1 := A3.at_ 1 (by omega)
  have a2 := A3.at_ 2 (by omega)
  have a3 := A3.at_ 3 (by omega)
  have la := A3.lt
  clear A1 O1 A2 O2 bel1 bel2 bel3 bel4 hba hbr A3 O3 hb2 a0' a1' a2' a3' fa lo3 HS HP
  have HRN := Lib.hid RN
  clear RN
  have HE := eqNumV (mulN (root1 a) (root1 a)) a (mulN_lt _ _) HA.out
  go_upto_region 4 with (fail)
  (refine wp_region_mild 5 (by kernel_rfl) (by kernel_rfl) ?_; simp only [List.take_succ_cons, List.take_zero, List.drop_succ_cons, List.drop_zero])
  repeat (first | (apply wpMild_const; (focus (intro wm hm; have hrw := fun p h => Go.RowKit.Below.cell (p := p) hm h; go_simp; exact rfl)); simp only [List.cons_append, List.nil_append]) | (apply wpMild_call; (focus (intro wm hm; have hrw := fun p h => Go.RowKit.Below.cell (p := p) hm h; go_simp; (exact Calls.mild (HM.out _)))); (focus (first | exact Go.md_stays_eq _ | (intro v w w' h hb; first | exact Bsl.below h hb | exact Sizes.stays _ _ _ h hb | (obtain ⟨c, h1, h2, h3⟩ := h; exact ⟨c, h1, h2, Vo.heap_below h3 hb⟩) | fail))); simp only [List.cons_append, List.nil_append]))
  (refine wpMild_nil ?_; intro wm hm; simp only [mildAll, forall_eq, forall_exists_index, and_imp, Act.put, List.setIfInBounds_toArray, List.set_cons_succ, List.set_cons_zero, forall_eq_apply_imp_iff])
  have RNm := HRN.out.below hm
  generalize w2.heap.size = p at *
  have HRN2 := Lib.hid RNm
  clear RNm hm HRN a0 a1 a2 a3 la HE HM
  generalize hd : decide (mulN (root1 a) (root1 a) = a) = d
  have HD := Lib.hid hd
  clear hd
  go_upto_if 17 with (fail)
  go_cut [] (fun wx => ERnd w a p (root2 a) wx)
  case first =>
    rcases d with _ | _
    rotate_left
    · have H2 : Hid (root2 a = root1 a) := Lib.hid (by unfold root2; rw [if_pos (of_decide_eq_true HD.out)])
      go_wp2_with fail
      go_meet
      rw [H2.out]
      exact HRN2.out
    · have H2 : Hid (root2 a = mulN (root1 a) (powN 2 q4)) := Lib.hid (by unfold root2; rw [if_neg (of_decide_eq_false HD.out)])
      have HQ : Hid (∀ w, Calls Tryz.prog 203 #[.agg #[.int .u64 2, .int .u64 0, .int .u64 0, .int .u64 0], .agg #[.int .u64 18446744073709551611, .int .u64 18446744073709551615, .int .u64 18446744073709551615, .int .u64 2305843009213693951]] w fun e w' => e = .returned (numV (powN 2 q4)) ∧ Below w.heap.size w w') := Lib.hid (fun w => by
        have h := power_any 2 q4 w (by decide) (by decide)
        rw [num2, num_q4] at h
        exact h)
      have HM2 := Lib.hid (fun w => muln_any (root1 a) (powN 2 q4) w (root1_lt _) (powN_lt _ _))
      have p0 := HRN2.out.rp.at_ 0 (by omega)
      have p1 := HRN2.out.rp.at_ 1 (by omega)
      have p2 := HRN2.out.rp.at_ 2 (by omega)
      have p3 := HRN2.out.rp.at_ 3 (by omega)
      have lp := HRN2.out.rp.lt
      go_wp2_with fail
      (refine wp_region_mild 5 (by kernel_rfl) (by kernel_rfl) ?_; simp only [List.take_succ_cons, List.take_zero, List.drop_succ_cons, List.drop_zero])
      (apply wpMild_const; (focus (intro wm hm; have hrw := fun p h => Go.RowKit.Below.cell (p := p) hm h; go_simp; exact rfl)); simp only [List.cons_append, List.nil_append])
      (apply wpMild_const; (focus (intro wm hm; have hrw := fun p h => Go.RowKit.Below.cell (p := p) hm h; go_simp; exact rfl)); simp only [List.cons_append, List.nil_append])
      (apply wpMild_const; (focus (intro wm hm; have hrw := fun p h => Go.RowKit.Below.cell (p := p) hm h; go_simp; exact rfl)); simp only [List.cons_append, List.nil_append])
      (apply wpMild_call; (focus (intro wm hm; have hrw := fun p h => Go.RowKit.Below.cell (p := p) hm h; go_simp; (exact Calls.mild (HQ.out _)))); (focus (first | exact Go.md_stays_eq _ | (intro v w w' h hb; first | exact Bsl.below h hb | exact Sizes.stays _ _ _ h hb | (obtain ⟨c, h1, h2, h3⟩ := h; exact ⟨c, h1, h2, Vo.heap_below h3 hb⟩) | fail))); simp only [List.cons_append, List.nil_append])
      (apply wpMild_call; (focus (intro wm hm; have hrw := fun p h => Go.RowKit.Below.cell (p := p) hm h; go_simp; (exact Calls.mild (HM2.out _)))); (focus (first | exact Go.md_stays_eq _ | (intro v w w' h hb; first | exact Bsl.below h hb | exact Sizes.stays _ _ _ h hb | (obtain ⟨c, h1, h2, h3⟩ := h; exact ⟨c, h1, h2, Vo.heap_below h3 hb⟩) | fail))); simp only [List.cons_append, List.nil_append])
      (refine wpMild_nil ?_; intro wm hm; simp only [mildAll, forall_eq, forall_exists_index, and_imp, Act.put, List.setIfInBounds_toArray, List.set_cons_succ, List.set_cons_zero, forall_eq_apply_imp_iff])
      have RN5 := (HRN2.out.below ((Below.refl _ _).alloc (Nat.le_refl _) (Obj.cells #[Value.int IntKind.u64 18446744073709551611, Value.int IntKind.u64 18446744073709551615, Value.int IntKind.u64 18446744073709551615, Value.int IntKind.u64 2305843009213693951] 150))).below hm
      clear hm p0 p1 p2 p3 lp HRN2 HQ HM2
      have p0 := RN5.rp.at_ 0 (by omega)
      have p1 := RN5.rp.at_ 1 (by omega)
      have p2 := RN5.rp.at_ 2 (by omega)
      have p3 := RN5.rp.at_ 3 (by omega)
      have lp := RN5.rp.lt
      have fp := RN5.rp.thaw
      have HR := Lib.hid (RN5.set (mulN (root1 a) (powN 2 q4)))
      clear RN5
      go_wp2_with fail
      go_meet
      rw [H2.out]
      exact HR.out
  case rest =>
    clear HRN2 HD
    have HR2 := Lib.hid (root2_lt a)
    have hrv : rootV a = if mulN (root2 a) (root2 a) = a then .tuple #[numV (rootE (root2 a)), .bool true] else .tuple #[numV 0, .bool false] := rfl
    have HV := Lib.hid hrv
    clear hrv
    generalize root2 a = r at *
    have p0 := hcut.rp.at_ 0 (by omega)
    have p1 := hcut.rp.at_ 1 (by omega)
    have p2 := hcut.rp.at_ 2 (by omega)
    have p3 := hcut.rp.at_ 3 (by omega)
    have a0 := hcut.ra.at_ 0 (by omega)
    have a1 := hcut.ra.at_ 1 (by omega)
    have a2 := hcut.ra.at_ 2 (by omega)
    have a3 := hcut.ra.at_ 3 (by omega)
    have lp := hcut.rp.lt
    have la := hcut.ra.lt
    have HE := eqNumV (mulN r r) a (mulN_lt _ _) HA.out
    have HM := Lib.hid (fun w => muln_any r r w HR2.out HR2.out)
    have HRN := Lib.hid hcut
    clear hcut
    go_upto_region 7 with (fail)
    (refine wp_region_mild 5 (by kernel_rfl) (by kernel_rfl) ?_; simp only [List.take_succ_cons, List.take_zero, List.drop_succ_cons, List.drop_zero])
    repeat (first | (apply wpMild_const; (focus (intro wm hm; have hrw := fun p h => Go.RowKit.Below.cell (p := p) hm h; go_simp; exact rfl)); simp only [List.cons_append, List.nil_append]) | (apply wpMild_call; (focus (intro wm hm; have hrw := fun p h => Go.RowKit.Below.cell (p := p) hm h; go_simp; (exact Calls.mild (HM.out _)))); (focus (first | exact Go.md_stays_eq _ | (intro v w w' h hb; first | exact Bsl.below h hb | exact Sizes.stays _ _ _ h hb | (obtain ⟨c, h1, h2, h3⟩ := h; exact ⟨c, h1, h2, Vo.heap_below h3 hb⟩) | fail))); simp only [List.cons_append, List.nil_append]))
    (refine wpMild_nil ?_; intro wm hm; simp only [mildAll, forall_eq, forall_exists_index, and_imp, Act.put, List.setIfInBounds_toArray, List.set_cons_succ, List.set_cons_zero, forall_eq_apply_imp_iff])
    have RNm := HRN.out.below hm
    clear hm HRN a0 a1 a2 a3 la p0 p1 p2 p3 lp HE HM
    have o0 := RNm.ro.at_ 0 (by omega)
    have o1 := RNm.ro.at_ 1 (by omega)
    have o2 := RNm.ro.at_ 2 (by omega)
    have o3 := RNm.ro.at_ 3 (by omega)
    have lo := RNm.ro.lt
    have fo := RNm.ro.thaw
    generalize hd : decide (mulN r r = a) = d
    have HD := Lib.hid hd
    clear hd
    rcases d with _ | _
    · have HV2 : Hid (rootV a = .tuple #[numV 0, .bool false]) := Lib.hid (by rw [HV.out, if_neg (of_decide_eq_false HD.out)])
      have bel := RNm.bel
      have hzs := bel.size
      clear RNm HV HD
      go_wp2
      refine bodyPost_ret (by simp [results, Tryz.results198, go_sem, o0, o1, o2, o3]; try rfl) rfl ?_
      exact ⟨by rw [HV2.out, num0], by go_grown⟩
    · have HV2 : Hid (rootV a = .tuple #[numV (rootE r), .bool true]) := Lib.hid (by rw [HV.out, if_pos (of_decide_eq_true HD.out)])
      have p0 := RNm.rp.at_ 0 (by omega)
      have p1 := RNm.rp.at_ 1 (by omega)
      have p2 := RNm.rp.at_ 2 (by omega)
      have p3 := RNm.rp.at_ 3 (by omega)
      have lp := RNm.rp.lt
      have fp := RNm.rp.thaw
      have HRN := Lib.hid RNm
      clear RNm HV HD
      have hbit : bits .and .u64 ((lim r 0 : Nat) : Int) 1 = ((r % 2 : Nat) : Int) := by
        rw [and1_nat _ (lim_lt _ _)]
        have : lim r 0 % 2 = r % 2 := by unfold lim; simp only [Nat.mul_zero, Nat.pow_zero, Nat.div_one]; omega
        rw [this]
      by_cases hodd : r % 2 = 1
      · rw [hodd] at hbit
        have hbit1 : bits .and .u64 ((lim r 0 : Nat) : Int) 1 = 1 := hbit
        have HR : Hid (rootE r = subN 0 r) := Lib.hid (by unfold rootE; rw [if_pos hodd])
        have HS : Hid (∀ w, Calls Tryz.prog 194 #[.agg #[.int .u64 0, .int .u64 0, .int .u64 0, .int .u64 0], numV r] w fun e w' => e = .returned (numV (subN 0 r)) ∧ Below w.heap.size w w') := Lib.hid (fun w => by
          have h := sub_any 0 r w (by decide) HR2.out
          rw [num0] at h
          exact h)
        clear hodd hbit o0 o1 o2 o3 lo fo fp
        go_wp2_with fail
        refine (HS.out _).mono ?_
        rintro e w5 ⟨rfl, hb5⟩
        have RN5 := HRN.out.below hb5
        clear hb5 HRN p0 p1 p2 p3 lp HS hbit1
        have p0 := RN5.rp.at_ 0 (by omega)
        have p1 := RN5.rp.at_ 1 (by omega)
        have p2 := RN5.rp.at_ 2 (by omega)
        have p3 := RN5.rp.at_ 3 (by omega)
        have lp := RN5.rp.lt
        have fp := RN5.rp.thaw
        have o0 := RN5.ro.at_ 0 (by omega)
        have o1 := RN5.ro.at_ 1 (by omega)
        have o2 := RN5.ro.at_ 2 (by omega)
        have o3 := RN5.ro.at_ 3 (by omega)
        have lo := RN5.ro.lt
        have fo := RN5.ro.thaw
        have gp : w.heap.size + 1 < p := RN5.gp
        have gn : p ≠ w.heap.size + 1 := by omega
        have gn' : w.heap.size + 1 ≠ p := by omega
        have bel := RN5.bel
        have hzs := bel.size
        have hzp : w.heap.size ≤ p := by omega
        clear RN5
        go_wp2
        refine bodyPost_ret (by simp [results, Tryz.results198, go_sem, o0, o1, o2, o3, gn, gn']; try rfl) rfl ?_
        exact ⟨by rw [HV2.out, HR.out], by go_grown⟩
      · have h0 : r % 2 = 0 := by omega
        rw [h0] at hbit
        have hbit1 : bits .and .u64 ((lim r 0 : Nat) : Int) 1 = 0 := hbit
        have HR : Hid (rootE r = r) := Lib.hid (by unfold rootE; rw [if_neg hodd])
        have bel := HRN.out.bel
        have hzs := bel.size
        clear hodd hbit h0 HRN
        go_wp2
        refine bodyPost_ret (by simp [results, Tryz.results198, go_sem, o0, o1, o2, o3]; try rfl) rfl ?_
        exact ⟨by rw [HV2.out, HR.out], by go_grown⟩
end Go.Proofs.YtlgghcffmnofdaaGreatDoor.Nu
