/-
  The walk of curve.Read.
-/
import Derived.Test.YtlgghcffmnofdaaGreatDoorCurveFQ
import Derived.Test.YtlgghcffmnofdaaGreatDoorNumKQ

namespace Go.Proofs.YtlgghcffmnofdaaGreatDoor.Nu
open Go Go.RowKit Go.Proofs.YtlgghcffmnofdaaGreatDoor.Cn
set_option linter.unusedSimpArgs false
set_option maxRecDepth 100000

/-- The world behind a store of a point. -/
def stQ (w : World) (c x y : Nat) : World := (World.setCell (World.setCell (World.setCell (World.setCell (World.setCell (World.setCell (World.setCell (World.setCell w ⟨c, 0, none⟩ (w64 (lim (x) 0))) ⟨c, 1, none⟩ (w64 (lim (x) 1))) ⟨c, 2, none⟩ (w64 (lim (x) 2))) ⟨c, 3, none⟩ (w64 (lim (x) 3))) ⟨c, 4, none⟩ (w64 (lim (y) 0))) ⟨c, 5, none⟩ (w64 (lim (y) 1))) ⟨c, 6, none⟩ (w64 (lim (y) 2))) ⟨c, 7, none⟩ (w64 (lim (y) 3)))
theorem Wd.allQ {w : World} {b : Nat} {f : Nat → Nat} (h : Wd w b 8 f) (x y : Nat) : Wd (stQ w b x y) b 8 (pof x y) := by
  unfold stQ
  have h0 := h.set (j := 0) (by omega) (lim x 0) (fun i _ => rfl)
  have h1 := h0.set (j := 1) (by omega) (lim x 1) (fun i _ => rfl)
  have h2 := h1.set (j := 2) (by omega) (lim x 2) (fun i _ => rfl)
  have h3 := h2.set (j := 3) (by omega) (lim x 3) (fun i _ => rfl)
  have h4 := h3.set (j := 4) (by omega) (lim y 0) (fun i _ => rfl)
  have h5 := h4.set (j := 5) (by omega) (lim y 1) (fun i _ => rfl)
  have h6 := h5.set (j := 6) (by omega) (lim y 2) (fun i _ => rfl)
  refine h6.set (j := 7) (by omega) (lim y 3) fun i hi => ?_
  obtain rfl | rfl | rfl | rfl | rfl | rfl | rfl | rfl : i = 0 ∨ i = 1 ∨ i = 2 ∨ i = 3 ∨ i = 4 ∨ i = 5 ∨ i = 6 ∨ i = 7 := by omega
  all_goals rfl
theorem Wd.farQ {w : World} {b n c : Nat} {f : Nat → Nat} (h : Wd w b n f) (x y : Nat) (hbc : b ≠ c) : Wd (stQ w c x y) b n f :=
  ((((((((h.far _ hbc).far _ hbc).far _ hbc).far _ hbc).far _ hbc).far _ hbc).far _ hbc).far _ hbc)
theorem belQ {B : Nat} {w wr : World} {b : Nat} (h : Below B w wr) (x y : Nat) (hb : B ≤ b) : Below B w (stQ wr b x y) :=
  ((((((((h.setCell hb _).setCell hb _).setCell hb _).setCell hb _).setCell hb _).setCell hb _).setCell hb _).setCell hb _)
theorem run_storeQ {w : World} {c : Nat} {f : Nat → Nat} (x y : Nat) (h : Wd w c 8 f) : (Instr.storeAt 152 (.pointer (some ⟨c, 0, none⟩)) (pointV x y)).run Tryz.prog w = .ok () (stQ w c x y) := by
  have z0 := h.at_ 0 (by omega)
  have z1 := h.at_ 1 (by omega)
  have z2 := h.at_ 2 (by omega)
  have z3 := h.at_ 3 (by omega)
  have z4 := h.at_ 4 (by omega)
  have z5 := h.at_ 5 (by omega)
  have z6 := h.at_ 6 (by omega)
  have z7 := h.at_ 7 (by omega)
  have zl := h.lt
  have zf := h.thaw
  clear h
  unfold stQ
  go_simp
theorem run_loadQ {w : World} {c x y : Nat} (h : Wd w c 8 (pof x y)) : (Instr.loadAt 152 (.pointer (some ⟨c, 0, none⟩))).run Tryz.prog w = .ok (pointV x y) w := by
  obtain ⟨z0, z1, z2, z3, z4, z5, z6, z7, zl⟩ := wpo h
  clear h
  go_simp
theorem wpList_storeX {P : Program} {ops : Array Oper} {rest : List Oper} {o : Oper} {a : Act} {Q : Exit → Act → World → Prop} {w w' : World} {x y : Operand} {t : TypeId} {p v : Value} (hrun : (Instr.storeAt t p v).run P w = .ok () w') (hg : o.guard = none) (hop : o.op = .store t x y)
    (hx : a.eval x = p) (hy : a.eval y = v) (hK : wpList P ops Q rest (a.put o.dst undef) w') : wpList P ops Q (o :: rest) a w := by
  refine wpList_plain hg fun K hK' => ?_
  unfold Oper.wp
  simp [execOp, hop, hx, hy, hrun, Result.andThen]
  exact hK' _ _ hK
theorem enter_minus (args : Array Value) (w : World) : (callFunc 153 args).run Tryz.prog w = .ok (.enter 153 args) w := by
  go_simp

theorem other_ex (y : Nat) : ∃ (a : Nat) (b : Bool), a < 2 ^ 256 ∧ (y < 2 ^ 256 → ∀ w, Calls Tryz.prog 151 #[numV y] w fun e w' => e = .returned (.tuple #[numV a, .bool b]) ∧ Below w.heap.size w w') :=
  ⟨otherX y, otherB y, otherX_lt y, fun hy w => other_any y w hy⟩
/-- The other number of a point; is there one? (None evaluates them.) -/
noncomputable def otrX (y : Nat) : Nat := Classical.choose (other_ex y)
noncomputable def otrB (y : Nat) : Bool := Classical.choose (Classical.choose_spec (other_ex y))
theorem otrX_lt (y : Nat) : otrX y < 2 ^ 256 := (Classical.choose_spec (Classical.choose_spec (other_ex y))).1
theorem otr_any (y : Nat) (w : World) (hy : y < 2 ^ 256) : Calls Tryz.prog 151 #[numV y] w fun e w' => e = .returned (.tuple #[numV (otrX y), .bool (otrB y)]) ∧ Below w.heap.size w w' :=
  (Classical.choose_spec (Classical.choose_spec (other_ex y))).2 hy w

/-- A point's bytes: its number below the highest bit, and that bit. -/
def readY (l : List UInt8) : Nat := leN l % 2 ^ 255
def topB (n : Nat) : Bool := decide (lim n 3 / 9223372036854775808 = 1)
theorem topB_int (n : Nat) : (((lim n 3 : Nat) : Int) / 9223372036854775808 == 1) = topB n := by
  rw [Bool.eq_iff_iff]
  unfold topB
  simp only [beq_iff_eq, decide_eq_true_eq]
  omega
theorem readY_lt (l : List UInt8) : readY l < 2 ^ 256 := Nat.lt_trans (Nat.mod_lt _ (by decide)) (by decide)
theorem lim_255 (n i : Nat) (hi : i < 4) : lim (n % 2 ^ 255) i = if i = 3 then lim n 3 % 9223372036854775808 else lim n i := by
  unfold lim
  obtain rfl | rfl | rfl | rfl : i = 0 ∨ i = 1 ∨ i = 2 ∨ i = 3 := by omega
  all_goals simp only [Nat.reduceMul, Nat.reducePow, Nat.reduceEqDiff, if_true, if_false]
  all_goals omega
/-- What is read of bytes: a point's numbers, and what is wrong. -/
noncomputable def readR (l : List UInt8) : Nat × Nat × Nat :=
  if l.length = 32 then
    if readY l < pp then
      if otrB (readY l) = true then
        if topB (leN l) = true then
          if otrX (readY l) = 0 then (0, 0, 5) else (subN 0 (otrX (readY l)), readY l, 0)
        else (otrX (readY l), readY l, 0)
      else (0, 0, 5)
    else (0, 0, 5)
  else (0, 0, 3)

set_option maxHeartbeats 16000000 in
theorem read_good (l : List UInt8) (v : Value) (w : World) (hv : Bsl w v l) (h32 : l.length = 32) (r : Nat × Nat × Nat) (hr : readR l = r) :
    Calls Tryz.prog 102 #[v] w fun e w' => e = .returned (.tuple #[pointV r.1 r.2.1, .int .i64 r.2.2]) ∧ Below w.heap.size w w' := by
  have HV := Lib.hid hv
  have HOF : Hid (∀ w, Bsl w v l → Calls Tryz.prog 103 #[v] w fun e w' => e = .returned (.tuple #[numV (leN l), .int .i64 0]) ∧ Below w.heap.size w w') := Lib.hid (fun w hv => of_any l v w hv h32)
  have HR : Hid ((if readY l < pp then
      if otrB (readY l) = true then
        if topB (leN l) = true then
          if otrX (readY l) = 0 then (0, 0, 5) else (subN 0 (otrX (readY l)), readY l, 0)
        else (otrX (readY l), readY l, 0)
      else (0, 0, 5)
    else (0, 0, 5)) = r) := Lib.hid (by rw [← hr]; unfold readR; rw [if_pos h32])
  have HYL := Lib.hid (readY_lt l)
  have HYE : Hid (∀ i, i < 4 → lim (readY l) i = if i = 3 then lim (leN l) 3 % 9223372036854775808 else lim (leN l) i) := Lib.hid (fun i hi => lim_255 (leN l) i hi)
  have HTB := topB_int (leN l)
  clear hv h32 hr
  generalize topB (leN l) = od at *
  generalize leN l = n at *
  generalize readY l = y at *
  go_enter Tryz.func102, Tryz.ntmps102
  go_upto_region 1 with (fail)
  refine wp_start1 ?_
  intro w0 B0 hO
  have O0 := wdz8 hO
  clear hO
  have HV0 := Lib.hid (HV.out.below B0)
  (refine wp_region_mildS 6 [false, false, false, false, false, true] (by kernel_rfl) ?_; simp only [List.take_succ_cons, List.take_zero, List.drop_succ_cons, List.drop_zero])
  (apply wpMildF_const; (focus (intro wm hm; have hrw := fun p h => Go.RowKit.Below.cell (p := p) hm h; go_simp; exact rfl)); simp only [List.cons_append, List.nil_append])
  (apply wpMildF_call; (focus (intro wm hm; have hrw := fun p h => Go.RowKit.Below.cell (p := p) hm h; go_simp; (exact Calls.mild (HOF.out _ (HV0.out.below hm))))); (focus (first | exact Go.md_stays_eq _ | (intro v w w' h hb; first | exact Bsl.below h hb | exact Sizes.stays _ _ _ h hb | (obtain ⟨c, h1, h2, h3⟩ := h; exact ⟨c, h1, h2, Vo.heap_below h3 hb⟩) | fail))); simp only [List.cons_append, List.nil_append])
  (apply wpMildF_const; (focus (intro wm hm; have hrw := fun p h => Go.RowKit.Below.cell (p := p) hm h; go_simp; exact rfl)); simp only [List.cons_append, List.nil_append])
  (apply wpMildF_const; (focus (intro wm hm; have hrw := fun p h => Go.RowKit.Below.cell (p := p) hm h; go_simp; exact rfl)); simp only [List.cons_append, List.nil_append])
  (apply wpMildF_const; (focus (intro wm hm; have hrw := fun p h => Go.RowKit.Below.cell (p := p) hm h; go_simp; exact rfl)); simp only [List.cons_append, List.nil_append])
  (apply wpMildF_new; (focus (intro wm hm; have hrw := fun p h => Go.RowKit.Below.cell (p := p) hm h; go_simp; first | exact rfl | exact ⟨rfl, rfl⟩)); simp only [List.cons_append, List.nil_append])
  (refine wpMildF_nil ?_; intro wm hm; simp only [mildAllF, MWord.blk_at, md_off, forall_eq, forall_exists_index, and_imp, and_true, true_implies, Act.put, List.setIfInBounds_toArray, List.set_cons_succ, List.set_cons_zero, forall_eq_apply_imp_iff])
  intro a a_l a_h
  have hga : w.heap.size < a := Nat.lt_of_lt_of_le O0.lt a_l
  ((have Za := wd_zero a_h); (obtain ⟨a_0, a_1, a_2, a_3, a_s, a_f⟩ := wz4 Za); (go_upto_region 2 with (fail)); (have hb := (bel_all (n := n) hm a_l)); (have B1 := B0.trans (hb.mono B0.size)); (have O1 := O0.below hb); (have Ca := (Za.all (n := n))); (clear hb hm Za a_0 a_1 a_2 a_3 a_s a_f a_h a_l); (generalize (World.setCell (World.setCell (World.setCell (World.setCell wm ⟨a, 0, none⟩ (w64 (lim (n) 0))) ⟨a, 1, none⟩ (w64 (lim (n) 1))) ⟨a, 2, none⟩ (w64 (lim (n) 2))) ⟨a, 3, none⟩ (w64 (lim (n) 3))) = w1 at *))
  obtain ⟨a0, a1, a2, a3, la⟩ := wd4 Ca
  have fa := Ca.thaw
  obtain ⟨t3, ht3⟩ : ∃ t3, t3 = lim n 3 % 9223372036854775808 := ⟨_, rfl⟩
  have HT3 := Lib.hid ht3
  have hand : bits .and .u64 ((lim n 3 : Nat) : Int) 9223372036854775807 = (t3 : Int) := by
    have h1 := lim_lt n 3
    have h2 := bits_mask .u64 64 (by decide) wraps_u64 63 (by decide) ((lim n 3 : Nat) : Int) (by omega) (by omega)
    rw [show ((2 : Int) ^ 63 - 1) = 9223372036854775807 by decide] at h2
    rw [h2, ht3]
    omega
  clear ht3
  go_upto_region 6 with (fail)
  have B2 := B1.setCell (show w.heap.size ≤ (⟨a, 3, none⟩ : Addr).block from Nat.le_of_lt hga) (w64 t3)
  have O2 := O1.far (j := 3) (w64 t3) (show w.heap.size ≠ a by omega)
  have C2 := Ca.set (j := 3) (g := lim y) (by omega) t3 (fun i hi => by rw [HT3.out]; exact HYE.out i hi)
  generalize w1.setCell ⟨a, 3, none⟩ (w64 t3) = w2 at *
  clear a0 a1 a2 a3 la fa hand HTB B1 O1 Ca HYE HV0 HV HOF
  have HLT := Lib.hid (fun w => less_any y pp w HYL.out (by decide))
  by_cases hlt : y < pp
  · rw [decide_eq_true hlt] at HLT
    rw [if_pos hlt] at HR
    clear hlt
    obtain ⟨a0, a1, a2, a3, la⟩ := wd4 C2
    (refine wp_region_mildF 4 [false, false, false, false] (by kernel_rfl) (by kernel_rfl) ?_; simp only [List.take_succ_cons, List.take_zero, List.drop_succ_cons, List.drop_zero])
    (apply wpMildF_const; (focus (intro wm hm; have hrw := fun p h => Go.RowKit.Below.cell (p := p) hm h; go_simp; exact rfl)); simp only [List.cons_append, List.nil_append])
    (apply wpMildF_call; (focus (intro wm hm; have hrw := fun p h => Go.RowKit.Below.cell (p := p) hm h; go_simp; (exact Calls.mild (prime_any _)))); (focus (first | exact Go.md_stays_eq _ | (intro v w w' h hb; first | exact Bsl.below h hb | exact Sizes.stays _ _ _ h hb | (obtain ⟨c, h1, h2, h3⟩ := h; exact ⟨c, h1, h2, Vo.heap_below h3 hb⟩) | fail))); simp only [List.cons_append, List.nil_append])
    (apply wpMildF_call; (focus (intro wm hm; have hrw := fun p h => Go.RowKit.Below.cell (p := p) hm h; go_simp; (exact Calls.mild (HLT.out _)))); (focus (first | exact Go.md_stays_eq _ | (intro v w w' h hb; first | exact Bsl.below h hb | exact Sizes.stays _ _ _ h hb | (obtain ⟨c, h1, h2, h3⟩ := h; exact ⟨c, h1, h2, Vo.heap_below h3 hb⟩) | fail))); simp only [List.cons_append, List.nil_append])
    (apply wpMildF_const; (focus (intro wm hm; have hrw := fun p h => Go.RowKit.Below.cell (p := p) hm h; go_simp; exact rfl)); simp only [List.cons_append, List.nil_append])
    (refine wpMildF_nil ?_; intro wm hm; simp only [mildAllF, MWord.blk_at, md_off, forall_eq, forall_exists_index, and_imp, and_true, true_implies, Act.put, List.setIfInBounds_toArray, List.set_cons_succ, List.set_cons_zero, forall_eq_apply_imp_iff])
    have O3 := O2.below hm
    have B3 := B2.trans (hm.mono B2.size)
    have C3 := C2.below hm
    clear hm a0 a1 a2 a3 la O2 B2 C2 HLT
    obtain ⟨a0, a1, a2, a3, la⟩ := wd4 C3
    have HOT := Lib.hid (fun w => otr_any y w HYL.out)
    have HXL := Lib.hid (otrX_lt y)
    generalize otrX y = x at *
    generalize otrB y = th at *
    go_upto_region 8 with (fail)
    (refine wp_region_mildS 6 [false, false, false, false, false, true] (by kernel_rfl) ?_; simp only [List.take_succ_cons, List.take_zero, List.drop_succ_cons, List.drop_zero])
    (apply wpMildF_const; (focus (intro wm hm; have hrw := fun p h => Go.RowKit.Below.cell (p := p) hm h; go_simp; exact rfl)); simp only [List.cons_append, List.nil_append])
    (apply wpMildF_call; (focus (intro wm hm; have hrw := fun p h => Go.RowKit.Below.cell (p := p) hm h; go_simp; (exact Calls.mild (HOT.out _)))); (focus (first | exact Go.md_stays_eq _ | (intro v w w' h hb; first | exact Bsl.below h hb | exact Sizes.stays _ _ _ h hb | (obtain ⟨c, h1, h2, h3⟩ := h; exact ⟨c, h1, h2, Vo.heap_below h3 hb⟩) | fail))); simp only [List.cons_append, List.nil_append])
    (apply wpMildF_const; (focus (intro wm hm; have hrw := fun p h => Go.RowKit.Below.cell (p := p) hm h; go_simp; exact rfl)); simp only [List.cons_append, List.nil_append])
    (apply wpMildF_const; (focus (intro wm hm; have hrw := fun p h => Go.RowKit.Below.cell (p := p) hm h; go_simp; exact rfl)); simp only [List.cons_append, List.nil_append])
    (apply wpMildF_const; (focus (intro wm hm; have hrw := fun p h => Go.RowKit.Below.cell (p := p) hm h; go_simp; exact rfl)); simp only [List.cons_append, List.nil_append])
    (apply wpMildF_new; (focus (intro wm hm; have hrw := fun p h => Go.RowKit.Below.cell (p := p) hm h; go_simp; first | exact rfl | exact ⟨rfl, rfl⟩)); simp only [List.cons_append, List.nil_append])
    (refine wpMildF_nil ?_; intro wm hm; simp only [mildAllF, MWord.blk_at, md_off, forall_eq, forall_exists_index, and_imp, and_true, true_implies, Act.put, List.setIfInBounds_toArray, List.set_cons_succ, List.set_cons_zero, forall_eq_apply_imp_iff])
    intro b b_l b_h
    have hgb : w.heap.size < b := Nat.lt_of_lt_of_le O3.lt b_l
    clear a0 a1 a2 a3 la
    ((have Zb := wd_zero b_h); (obtain ⟨b_0, b_1, b_2, b_3, b_s, b_f⟩ := wz4 Zb); (go_upto_region 9 with (fail)); (have hb := (bel_all (n := x) hm b_l)); (have B4 := B3.trans (hb.mono B3.size)); (have O4 := O3.below hb); (have C4 := C3.below hb); (have Cb := (Zb.all (n := x))); (clear hb hm Zb b_0 b_1 b_2 b_3 b_s b_f b_h b_l); (generalize (World.setCell (World.setCell (World.setCell (World.setCell wm ⟨b, 0, none⟩ (w64 (lim (x) 0))) ⟨b, 1, none⟩ (w64 (lim (x) 1))) ⟨b, 2, none⟩ (w64 (lim (x) 2))) ⟨b, 3, none⟩ (w64 (lim (x) 3))) = w4 at *))
    cases th with
    | false =>
      rw [if_neg (by decide)] at HR
      obtain ⟨o0, o1, o2, o3, o4, o5, o6, o7, lo, fo⟩ := wz8 O4
      have hzs := B4.size
      go_wp2
      refine bodyPost_ret (by simp [results, Tryz.results102, go_sem, o0, o1, o2, o3, o4, o5, o6, o7]; try rfl) rfl ?_
      exact ⟨by rw [← HR.out]; rfl, by go_grown⟩
    | true =>
      rw [if_pos rfl] at HR
      have b0 := wd4 Cb
      obtain ⟨b0, b1, b2, b3, lb⟩ := b0
      cases od with
      | false =>
        rw [if_neg (by decide)] at HR
        clear b0 b1 b2 b3 lb
        go_upto_region 11 with (fail)
        have b0 := wd4 Cb
        obtain ⟨b0, b1, b2, b3, lb⟩ := b0
        have a0 := wd4 C4
        obtain ⟨a0, a1, a2, a3, la⟩ := a0
        have lo0 := O4.lt
        (refine wp_region_mildS 4 [false, false, false, true] (by kernel_rfl) ?_; simp only [List.take_succ_cons, List.take_zero, List.drop_succ_cons, List.drop_zero])
        (apply wpMildF_const; (focus (intro wm hm; have hrw := fun p h => Go.RowKit.Below.cell (p := p) hm h; go_simp; exact rfl)); simp only [List.cons_append, List.nil_append])
        (apply wpMildF_const; (focus (intro wm hm; have hrw := fun p h => Go.RowKit.Below.cell (p := p) hm h; go_simp; exact rfl)); simp only [List.cons_append, List.nil_append])
        (apply wpMildF_const; (focus (intro wm hm; have hrw := fun p h => Go.RowKit.Below.cell (p := p) hm h; go_simp; exact rfl)); simp only [List.cons_append, List.nil_append])
        (apply wpMildF_new; (focus (intro wm hm; have hrw := fun p h => Go.RowKit.Below.cell (p := p) hm h; go_simp; first | exact rfl | exact ⟨rfl, rfl⟩)); simp only [List.cons_append, List.nil_append])
        (refine wpMildF_nil ?_; intro wm hm; simp only [mildAllF, MWord.blk_at, md_off, forall_eq, forall_exists_index, and_imp, and_true, true_implies, Act.put, List.setIfInBounds_toArray, List.set_cons_succ, List.set_cons_zero, forall_eq_apply_imp_iff])
        intro c c_l c_h
        have Zc := wdz8 c_h
        refine wpList_storeX (run_storeQ x y Zc) rfl rfl rfl rfl ?_
        simp only [Act.put]
        have hgc : w.heap.size < c := Nat.lt_of_lt_of_le lo0 c_l
        have B6 := belQ (B4.trans (hm.mono B4.size)) x y (Nat.le_of_lt hgc)
        have O6 := (O4.below hm).farQ (c := c) x y (by omega)
        have D6 := Zc.allQ x y
        generalize stQ wm c x y = w6 at *
        clear hm a0 a1 a2 a3 la b0 b1 b2 b3 lb Zc c_h c_l lo0 Cb C4 O4 B4
        go_upto_region 14 with (fail)
        refine wp_region_lit ?_
        refine wpList_loadX (run_loadQ D6) rfl rfl rfl ?_
        refine wpList_storeX (run_storeQ x y O6) rfl rfl rfl rfl ?_
        simp only [Act.put]
        have O8 := O6.allQ x y
        have B8 := belQ B6 x y (Nat.le_refl _)
        generalize stQ w6 w.heap.size x y = w8 at *
        clear O6 B6 D6
        obtain ⟨o0, o1, o2, o3, o4, o5, o6, o7, lo⟩ := wpo O8
        have hzs := B8.size
        go_wp2
        refine bodyPost_ret (by simp [results, Tryz.results102, go_sem, o0, o1, o2, o3, o4, o5, o6, o7]; try rfl) rfl ?_
        exact ⟨by rw [← HR.out]; rfl, by go_grown⟩
      | true =>
        rw [if_pos rfl] at HR
        have HZ := Lib.hid (fun w => zero_any x w HXL.out)
        go_wp2_with fail
        refine (HZ.out _).mono ?_
        rintro e w5 ⟨rfl, hb5⟩
        have O5 := O4.below hb5
        have B5 := B4.trans (hb5.mono B4.size)
        have C5 := C4.below hb5
        have D5 := Cb.below hb5
        clear b0 b1 b2 b3 lb O4 B4 C4 Cb hb5 HZ
        by_cases hx0 : x = 0
        · rw [if_pos hx0] at HR
          have hxd : decide (x = 0) = true := decide_eq_true hx0
          clear hx0
          obtain ⟨o0, o1, o2, o3, o4, o5, o6, o7, lo, fo⟩ := wz8 O5
          have hzs := B5.size
          go_wp2
          refine bodyPost_ret (by simp [results, Tryz.results102, go_sem, o0, o1, o2, o3, o4, o5, o6, o7]; try rfl) rfl ?_
          exact ⟨by rw [← HR.out]; rfl, by go_grown⟩
        · rw [if_neg hx0] at HR
          have hxd : decide (x = 0) = false := decide_eq_false hx0
          clear hx0
          go_upto_region 11 with (fail)
          have b0 := wd4 D5
          obtain ⟨b0, b1, b2, b3, lb⟩ := b0
          have a0 := wd4 C5
          obtain ⟨a0, a1, a2, a3, la⟩ := a0
          have lo0 := O5.lt
          (refine wp_region_mildS 4 [false, false, false, true] (by kernel_rfl) ?_; simp only [List.take_succ_cons, List.take_zero, List.drop_succ_cons, List.drop_zero])
          (apply wpMildF_const; (focus (intro wm hm; have hrw := fun p h => Go.RowKit.Below.cell (p := p) hm h; go_simp; exact rfl)); simp only [List.cons_append, List.nil_append])
          (apply wpMildF_const; (focus (intro wm hm; have hrw := fun p h => Go.RowKit.Below.cell (p := p) hm h; go_simp; exact rfl)); simp only [List.cons_append, List.nil_append])
          (apply wpMildF_const; (focus (intro wm hm; have hrw := fun p h => Go.RowKit.Below.cell (p := p) hm h; go_simp; exact rfl)); simp only [List.cons_append, List.nil_append])
          (apply wpMildF_new; (focus (intro wm hm; have hrw := fun p h => Go.RowKit.Below.cell (p := p) hm h; go_simp; first | exact rfl | exact ⟨rfl, rfl⟩)); simp only [List.cons_append, List.nil_append])
          (refine wpMildF_nil ?_; intro wm hm; simp only [mildAllF, MWord.blk_at, md_off, forall_eq, forall_exists_index, and_imp, and_true, true_implies, Act.put, List.setIfInBounds_toArray, List.set_cons_succ, List.set_cons_zero, forall_eq_apply_imp_iff])
          intro c c_l c_h
          have Zc := wdz8 c_h
          refine wpList_storeX (run_storeQ x y Zc) rfl rfl rfl rfl ?_
          simp only [Act.put]
          have hgc : w.heap.size < c := Nat.lt_of_lt_of_le lo0 c_l
          have B6 := belQ (B5.trans (hm.mono B5.size)) x y (Nat.le_of_lt hgc)
          have O6 := (O5.below hm).farQ (c := c) x y (by omega)
          have D6 := Zc.allQ x y
          generalize stQ wm c x y = w6 at *
          clear hm a0 a1 a2 a3 la b0 b1 b2 b3 lb Zc c_h c_l lo0 D5 C5 O5 B5
          go_upto_region 13 with (fail)
          refine wp_region_lit ?_
          refine wpList_loadX (run_loadQ D6) rfl rfl rfl ?_
          refine wpList_callX (minusP_any x y _ HXL.out) (enter_minus _ _) rfl rfl (by simp [Act.put, Act.eval]) fun wm hm => ?_
          have D7 := D6.below hm
          have O7 := O6.below hm
          have B7 := B6.trans (hm.mono B6.size)
          clear hm D6 O6 B6
          refine wpList_storeX (run_storeQ (subN 0 x) y D7) rfl rfl rfl rfl ?_
          simp only [Act.put]
          have B9 := belQ B7 (subN 0 x) y (Nat.le_of_lt hgc)
          have O9 := O7.farQ (c := c) (subN 0 x) y (by omega)
          have D9 := D7.allQ (subN 0 x) y
          generalize stQ wm c (subN 0 x) y = w7 at *
          clear D7 O7 B7
          go_upto_region 14 with (fail)
          refine wp_region_lit ?_
          refine wpList_loadX (run_loadQ D9) rfl rfl rfl ?_
          refine wpList_storeX (run_storeQ (subN 0 x) y O9) rfl rfl rfl rfl ?_
          simp only [Act.put]
          have O8 := O9.allQ (subN 0 x) y
          have B8 := belQ B9 (subN 0 x) y (Nat.le_refl _)
          generalize stQ w7 w.heap.size (subN 0 x) y = w8 at *
          clear O9 B9 D9
          obtain ⟨o0, o1, o2, o3, o4, o5, o6, o7, lo⟩ := wpo O8
          have hzs := B8.size
          go_wp2
          refine bodyPost_ret (by simp [results, Tryz.results102, go_sem, o0, o1, o2, o3, o4, o5, o6, o7]; try rfl) rfl ?_
          exact ⟨by rw [← HR.out]; rfl, by go_grown⟩
  · rw [decide_eq_false hlt] at HLT
    rw [if_neg hlt] at HR
    clear hlt
    obtain ⟨a0, a1, a2, a3, la⟩ := wd4 C2
    (refine wp_region_mildF 4 [false, false, false, false] (by kernel_rfl) (by kernel_rfl) ?_; simp only [List.take_succ_cons, List.take_zero, List.drop_succ_cons, List.drop_zero])
    (apply wpMildF_const; (focus (intro wm hm; have hrw := fun p h => Go.RowKit.Below.cell (p := p) hm h; go_simp; exact rfl)); simp only [List.cons_append, List.nil_append])
    (apply wpMildF_call; (focus (intro wm hm; have hrw := fun p h => Go.RowKit.Below.cell (p := p) hm h; go_simp; (exact Calls.mild (prime_any _)))); (focus (first | exact Go.md_stays_eq _ | (intro v w w' h hb; first | exact Bsl.below h hb | exact Sizes.stays _ _ _ h hb | (obtain ⟨c, h1, h2, h3⟩ := h; exact ⟨c, h1, h2, Vo.heap_below h3 hb⟩) | fail))); simp only [List.cons_append, List.nil_append])
    (apply wpMildF_call; (focus (intro wm hm; have hrw := fun p h => Go.RowKit.Below.cell (p := p) hm h; go_simp; (exact Calls.mild (HLT.out _)))); (focus (first | exact Go.md_stays_eq _ | (intro v w w' h hb; first | exact Bsl.below h hb | exact Sizes.stays _ _ _ h hb | (obtain ⟨c, h1, h2, h3⟩ := h; exact ⟨c, h1, h2, Vo.heap_below h3 hb⟩) | fail))); simp only [List.cons_append, List.nil_append])
    (apply wpMildF_const; (focus (intro wm hm; have hrw := fun p h => Go.RowKit.Below.cell (p := p) hm h; go_simp; exact rfl)); simp only [List.cons_append, List.nil_append])
    (refine wpMildF_nil ?_; intro wm hm; simp only [mildAllF, MWord.blk_at, md_off, forall_eq, forall_exists_index, and_imp, and_true, true_implies, Act.put, List.setIfInBounds_toArray, List.set_cons_succ, List.set_cons_zero, forall_eq_apply_imp_iff])
    have O3 := O2.below hm
    have B3 := B2.trans (hm.mono B2.size)
    clear hm a0 a1 a2 a3 la O2 B2 C2 HLT
    obtain ⟨o0, o1, o2, o3, o4, o5, o6, o7, lo, fo⟩ := wz8 O3
    have hzs := B3.size
    go_wp2
    refine bodyPost_ret (by simp [results, Tryz.results102, go_sem, o0, o1, o2, o3, o4, o5, o6, o7]; try rfl) rfl ?_
    exact ⟨by rw [← HR.out]; rfl, by go_grown⟩

theorem read_bad (l : List UInt8) (v : Value) (w : World) (hv : Bsl w v l) (h32 : l.length ≠ 32) :
    Calls Tryz.prog 102 #[v] w fun e w' => e = .returned (.tuple #[pointV 0 0, .int .i64 3]) ∧ Below w.heap.size w w' := by
  have HV := Lib.hid hv
  have HOF : Hid (∀ w, Bsl w v l → Calls Tryz.prog 103 #[v] w fun e w' => e = .returned (.tuple #[numV 0, .int .i64 3]) ∧ Below w.heap.size w w') := Lib.hid (fun w hv => of_bad l v w hv h32)
  clear hv h32
  go_enter Tryz.func102, Tryz.ntmps102
  go_upto_region 1 with (fail)
  refine wp_start1 ?_
  intro w0 B0 hO
  have O0 := wdz8 hO
  clear hO
  have HV0 := Lib.hid (HV.out.below B0)
  (refine wp_region_mildS 6 [false, false, false, false, false, true] (by kernel_rfl) ?_; simp only [List.take_succ_cons, List.take_zero, List.drop_succ_cons, List.drop_zero])
  (apply wpMildF_const; (focus (intro wm hm; have hrw := fun p h => Go.RowKit.Below.cell (p := p) hm h; go_simp; exact rfl)); simp only [List.cons_append, List.nil_append])
  (apply wpMildF_call; (focus (intro wm hm; have hrw := fun p h => Go.RowKit.Below.cell (p := p) hm h; go_simp; (exact Calls.mild (HOF.out _ (HV0.out.below hm))))); (focus (first | exact Go.md_stays_eq _ | (intro v w w' h hb; first | exact Bsl.below h hb | exact Sizes.stays _ _ _ h hb | (obtain ⟨c, h1, h2, h3⟩ := h; exact ⟨c, h1, h2, Vo.heap_below h3 hb⟩) | fail))); simp only [List.cons_append, List.nil_append])
  (apply wpMildF_const; (focus (intro wm hm; have hrw := fun p h => Go.RowKit.Below.cell (p := p) hm h; go_simp; exact rfl)); simp only [List.cons_append, List.nil_append])
  (apply wpMildF_const; (focus (intro wm hm; have hrw := fun p h => Go.RowKit.Below.cell (p := p) hm h; go_simp; exact rfl)); simp only [List.cons_append, List.nil_append])
  (apply wpMildF_const; (focus (intro wm hm; have hrw := fun p h => Go.RowKit.Below.cell (p := p) hm h; go_simp; exact rfl)); simp only [List.cons_append, List.nil_append])
  (apply wpMildF_new; (focus (intro wm hm; have hrw := fun p h => Go.RowKit.Below.cell (p := p) hm h; go_simp; first | exact rfl | exact ⟨rfl, rfl⟩)); simp only [List.cons_append, List.nil_append])
  (refine wpMildF_nil ?_; intro wm hm; simp only [mildAllF, MWord.blk_at, md_off, forall_eq, forall_exists_index, and_imp, and_true, true_implies, Act.put, List.setIfInBounds_toArray, List.set_cons_succ, List.set_cons_zero, forall_eq_apply_imp_iff])
  intro a a_l a_h
  ((have Za := wd_zero a_h); (obtain ⟨a_0, a_1, a_2, a_3, a_s, a_f⟩ := wz4 Za); (go_upto_region 2 with (fail)); (have hb := (bel_all (n := 0) hm a_l)); (have B1 := B0.trans (hb.mono B0.size)); (have O1 := O0.below hb); (have Ca := (Za.all (n := 0))); (clear hb hm Za a_0 a_1 a_2 a_3 a_s a_f a_h a_l); (generalize (World.setCell (World.setCell (World.setCell (World.setCell wm ⟨a, 0, none⟩ (w64 (lim (0) 0))) ⟨a, 1, none⟩ (w64 (lim (0) 1))) ⟨a, 2, none⟩ (w64 (lim (0) 2))) ⟨a, 3, none⟩ (w64 (lim (0) 3))) = w1 at *))
  obtain ⟨o0, o1, o2, o3, o4, o5, o6, o7, lo, fo⟩ := wz8 O1
  have hzs := B1.size
  go_wp2
  refine bodyPost_ret (by simp [results, Tryz.results102, go_sem, o0, o1, o2, o3, o4, o5, o6, o7]; try rfl) rfl ?_
  exact ⟨rfl, by go_grown⟩

theorem readR_lt (l : List UInt8) : (readR l).1 < 2 ^ 256 ∧ (readR l).2.1 < 2 ^ 256 := by
  have hy := readY_lt l
  have hx := otrX_lt (readY l)
  have h0 : 0 < 2 ^ 256 := by decide
  unfold readR
  split
  · split
    · split
      · split
        · split
          · exact ⟨h0, h0⟩
          · exact ⟨subN_lt _ _, hy⟩
        · exact ⟨hx, hy⟩
      · exact ⟨h0, h0⟩
    · exact ⟨h0, h0⟩
  · exact ⟨h0, h0⟩
theorem read_ex (l : List UInt8) : ∃ a b c : Nat, a < 2 ^ 256 ∧ b < 2 ^ 256 ∧ ∀ v w, Bsl w v l → Calls Tryz.prog 102 #[v] w fun e w' => e = .returned (.tuple #[pointV a b, .int .i64 c]) ∧ Below w.heap.size w w' := by
  by_cases h32 : l.length = 32
  · obtain ⟨h1, h2⟩ := readR_lt l
    exact ⟨_, _, _, h1, h2, fun v w hv => read_good l v w hv h32 _ rfl⟩
  · exact ⟨0, 0, 3, by decide, by decide, fun v w hv => read_bad l v w hv h32⟩
/-- The point that bytes are read as, and what is wrong (none evaluates them). -/
noncomputable def rdX (l : List UInt8) : Nat := Classical.choose (read_ex l)
noncomputable def rdY (l : List UInt8) : Nat := Classical.choose (Classical.choose_spec (read_ex l))
noncomputable def rdE (l : List UInt8) : Nat := Classical.choose (Classical.choose_spec (Classical.choose_spec (read_ex l)))
theorem rdX_lt (l : List UInt8) : rdX l < 2 ^ 256 := (Classical.choose_spec (Classical.choose_spec (Classical.choose_spec (read_ex l)))).1
theorem rdY_lt (l : List UInt8) : rdY l < 2 ^ 256 := (Classical.choose_spec (Classical.choose_spec (Classical.choose_spec (read_ex l)))).2.1
theorem read_any (l : List UInt8) (v : Value) (w : World) (hv : Bsl w v l) : Calls Tryz.prog 102 #[v] w fun e w' => e = .returned (.tuple #[pointV (rdX l) (rdY l), .int .i64 (rdE l)]) ∧ Below w.heap.size w w' :=
  (Classical.choose_spec (Classical.choose_spec (Classical.choose_spec (read_ex l)))).2.2 v w hv
end Go.Proofs.YtlgghcffmnofdaaGreatDoor.Nu
