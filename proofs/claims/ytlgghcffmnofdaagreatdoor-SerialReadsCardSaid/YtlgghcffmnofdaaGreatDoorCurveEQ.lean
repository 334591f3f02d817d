/-
  The walks of curve: Minus, Times, Small.
-/
import Derived.Test.YtlgghcffmnofdaaGreatDoorCurveDQ

namespace Go.Proofs.YtlgghcffmnofdaaGreatDoor.Nu
open Go Go.RowKit Go.Proofs.YtlgghcffmnofdaaGreatDoor.Cn
set_option linter.unusedSimpArgs false
set_option maxRecDepth 100000

theorem Wd.all16 {w : World} {b : Nat} {f : Nat → Nat} (h : Wd w b 16 f) (p : Pl) : Wd (World.setCell (World.setCell (World.setCell (World.setCell (World.setCell (World.setCell (World.setCell (World.setCell (World.setCell (World.setCell (World.setCell (World.setCell (World.setCell (World.setCell (World.setCell (World.setCell w ⟨b, 0, none⟩ (w64 (lim (p.x) 0))) ⟨b, 1, none⟩ (w64 (lim (p.x) 1))) ⟨b, 2, none⟩ (w64 (lim (p.x) 2))) ⟨b, 3, none⟩ (w64 (lim (p.x) 3))) ⟨b, 4, none⟩ (w64 (lim (p.y) 0))) ⟨b, 5, none⟩ (w64 (lim (p.y) 1))) ⟨b, 6, none⟩ (w64 (lim (p.y) 2))) ⟨b, 7, none⟩ (w64 (lim (p.y) 3))) ⟨b, 8, none⟩ (w64 (lim (p.z) 0))) ⟨b, 9, none⟩ (w64 (lim (p.z) 1))) ⟨b, 10, none⟩ (w64 (lim (p.z) 2))) ⟨b, 11, none⟩ (w64 (lim (p.z) 3))) ⟨b, 12, none⟩ (w64 (lim (p.t) 0))) ⟨b, 13, none⟩ (w64 (lim (p.t) 1))) ⟨b, 14, none⟩ (w64 (lim (p.t) 2))) ⟨b, 15, none⟩ (w64 (lim (p.t) 3))) b 16 (plf p) := by
  have h0 := h.set (j := 0) (by omega) (lim p.x 0) (fun i _ => rfl)
  have h1 := h0.set (j := 1) (by omega) (lim p.x 1) (fun i _ => rfl)
  have h2 := h1.set (j := 2) (by omega) (lim p.x 2) (fun i _ => rfl)
  have h3 := h2.set (j := 3) (by omega) (lim p.x 3) (fun i _ => rfl)
  have h4 := h3.set (j := 4) (by omega) (lim p.y 0) (fun i _ => rfl)
  have h5 := h4.set (j := 5) (by omega) (lim p.y 1) (fun i _ => rfl)
  have h6 := h5.set (j := 6) (by omega) (lim p.y 2) (fun i _ => rfl)
  have h7 := h6.set (j := 7) (by omega) (lim p.y 3) (fun i _ => rfl)
  have h8 := h7.set (j := 8) (by omega) (lim p.z 0) (fun i _ => rfl)
  have h9 := h8.set (j := 9) (by omega) (lim p.z 1) (fun i _ => rfl)
  have h10 := h9.set (j := 10) (by omega) (lim p.z 2) (fun i _ => rfl)
  have h11 := h10.set (j := 11) (by omega) (lim p.z 3) (fun i _ => rfl)
  have h12 := h11.set (j := 12) (by omega) (lim p.t 0) (fun i _ => rfl)
  have h13 := h12.set (j := 13) (by omega) (lim p.t 1) (fun i _ => rfl)
  have h14 := h13.set (j := 14) (by omega) (lim p.t 2) (fun i _ => rfl)
  refine h14.set (j := 15) (by omega) (lim p.t 3) fun i hi => ?_
  obtain rfl | rfl | rfl | rfl | rfl | rfl | rfl | rfl | rfl | rfl | rfl | rfl | rfl | rfl | rfl | rfl : i = 0 ∨ i = 1 ∨ i = 2 ∨ i = 3 ∨ i = 4 ∨ i = 5 ∨ i = 6 ∨ i = 7 ∨ i = 8 ∨ i = 9 ∨ i = 10 ∨ i = 11 ∨ i = 12 ∨ i = 13 ∨ i = 14 ∨ i = 15 := by omega
  all_goals rfl
theorem Wd.far16 {w : World} {b n c : Nat} {f : Nat → Nat} (h : Wd w b n f) (p : Pl) (hbc : b ≠ c) : Wd (World.setCell (World.setCell (World.setCell (World.setCell (World.setCell (World.setCell (World.setCell (World.setCell (World.setCell (World.setCell (World.setCell (World.setCell (World.setCell (World.setCell (World.setCell (World.setCell w ⟨c, 0, none⟩ (w64 (lim (p.x) 0))) ⟨c, 1, none⟩ (w64 (lim (p.x) 1))) ⟨c, 2, none⟩ (w64 (lim (p.x) 2))) ⟨c, 3, none⟩ (w64 (lim (p.x) 3))) ⟨c, 4, none⟩ (w64 (lim (p.y) 0))) ⟨c, 5, none⟩ (w64 (lim (p.y) 1))) ⟨c, 6, none⟩ (w64 (lim (p.y) 2))) ⟨c, 7, none⟩ (w64 (lim (p.y) 3))) ⟨c, 8, none⟩ (w64 (lim (p.z) 0))) ⟨c, 9, none⟩ (w64 (lim (p.z) 1))) ⟨c, 10, none⟩ (w64 (lim (p.z) 2))) ⟨c, 11, none⟩ (w64 (lim (p.z) 3))) ⟨c, 12, none⟩ (w64 (lim (p.t) 0))) ⟨c, 13, none⟩ (w64 (lim (p.t) 1))) ⟨c, 14, none⟩ (w64 (lim (p.t) 2))) ⟨c, 15, none⟩ (w64 (lim (p.t) 3))) b n f :=
  ((((((((((((((((h.far _ hbc).far _ hbc).far _ hbc).far _ hbc).far _ hbc).far _ hbc).far _ hbc).far _ hbc).far _ hbc).far _ hbc).far _ hbc).far _ hbc).far _ hbc).far _ hbc).far _ hbc).far _ hbc)
theorem bel16 {B : Nat} {w wr : World} {b : Nat} (h : Below B w wr) (p : Pl) (hb : B ≤ b) : Below B w (World.setCell (World.setCell (World.setCell (World.setCell (World.setCell (World.setCell (World.setCell (World.setCell (World.setCell (World.setCell (World.setCell (World.setCell (World.setCell (World.setCell (World.setCell (World.setCell wr ⟨b, 0, none⟩ (w64 (lim (p.x) 0))) ⟨b, 1, none⟩ (w64 (lim (p.x) 1))) ⟨b, 2, none⟩ (w64 (lim (p.x) 2))) ⟨b, 3, none⟩ (w64 (lim (p.x) 3))) ⟨b, 4, none⟩ (w64 (lim (p.y) 0))) ⟨b, 5, none⟩ (w64 (lim (p.y) 1))) ⟨b, 6, none⟩ (w64 (lim (p.y) 2))) ⟨b, 7, none⟩ (w64 (lim (p.y) 3))) ⟨b, 8, none⟩ (w64 (lim (p.z) 0))) ⟨b, 9, none⟩ (w64 (lim (p.z) 1))) ⟨b, 10, none⟩ (w64 (lim (p.z) 2))) ⟨b, 11, none⟩ (w64 (lim (p.z) 3))) ⟨b, 12, none⟩ (w64 (lim (p.t) 0))) ⟨b, 13, none⟩ (w64 (lim (p.t) 1))) ⟨b, 14, none⟩ (w64 (lim (p.t) 2))) ⟨b, 15, none⟩ (w64 (lim (p.t) 3))) :=
  ((((((((((((((((h.setCell hb _).setCell hb _).setCell hb _).setCell hb _).setCell hb _).setCell hb _).setCell hb _).setCell hb _).setCell hb _).setCell hb _).setCell hb _).setCell hb _).setCell hb _).setCell hb _).setCell hb _).setCell hb _)
/-- The world behind a store of a place. -/
def stP (w : World) (c : Nat) (p : Pl) : World := (World.setCell (World.setCell (World.setCell (World.setCell (World.setCell (World.setCell (World.setCell (World.setCell (World.setCell (World.setCell (World.setCell (World.setCell (World.setCell (World.setCell (World.setCell (World.setCell w ⟨c, 0, none⟩ (w64 (lim (p.x) 0))) ⟨c, 1, none⟩ (w64 (lim (p.x) 1))) ⟨c, 2, none⟩ (w64 (lim (p.x) 2))) ⟨c, 3, none⟩ (w64 (lim (p.x) 3))) ⟨c, 4, none⟩ (w64 (lim (p.y) 0))) ⟨c, 5, none⟩ (w64 (lim (p.y) 1))) ⟨c, 6, none⟩ (w64 (lim (p.y) 2))) ⟨c, 7, none⟩ (w64 (lim (p.y) 3))) ⟨c, 8, none⟩ (w64 (lim (p.z) 0))) ⟨c, 9, none⟩ (w64 (lim (p.z) 1))) ⟨c, 10, none⟩ (w64 (lim (p.z) 2))) ⟨c, 11, none⟩ (w64 (lim (p.z) 3))) ⟨c, 12, none⟩ (w64 (lim (p.t) 0))) ⟨c, 13, none⟩ (w64 (lim (p.t) 1))) ⟨c, 14, none⟩ (w64 (lim (p.t) 2))) ⟨c, 15, none⟩ (w64 (lim (p.t) 3)))
theorem Wd.allP {w : World} {b : Nat} {f : Nat → Nat} (h : Wd w b 16 f) (p : Pl) : Wd (stP w b p) b 16 (plf p) := h.all16 p
theorem Wd.farP {w : World} {b n c : Nat} {f : Nat → Nat} (h : Wd w b n f) (p : Pl) (hbc : b ≠ c) : Wd (stP w c p) b n f := h.far16 p hbc
theorem belP {B : Nat} {w wr : World} {b : Nat} (h : Below B w wr) (p : Pl) (hb : B ≤ b) : Below B w (stP wr b p) := bel16 h p hb
set_option maxHeartbeats 4000000 in
theorem run_storeP {w : World} {c : Nat} {f : Nat → Nat} (p : Pl) (h : Wd w c 16 f) : (Instr.storeAt 252 (.pointer (some ⟨c, 0, none⟩)) (placeV p)).run Tryz.prog w = .ok () (stP w c p) := by
  have z0 := h.at_ 0 (by omega)
  have z1 := h.at_ 1 (by omega)
  have z2 := h.at_ 2 (by omega)
  have z3 := h.at_ 3 (by omega)
  have z4 := h.at_ 4 (by omega)
  have z5 := h.at_ 5 (by omega)
  have z6 := h.at_ 6 (by omega)
  have z7 := h.at_ 7 (by omega)
  have z8 := h.at_ 8 (by omega)
  have z9 := h.at_ 9 (by omega)
  have z10 := h.at_ 10 (by omega)
  have z11 := h.at_ 11 (by omega)
  have z12 := h.at_ 12 (by omega)
  have z13 := h.at_ 13 (by omega)
  have z14 := h.at_ 14 (by omega)
  have z15 := h.at_ 15 (by omega)
  have zl := h.lt
  have zf := h.thaw
  clear h
  unfold stP
  go_simp
theorem wpList_storeP {ops : Array Oper} {rest : List Oper} {o : Oper} {a : Act} {Q : Exit → Act → World → Prop} {w : World} {x y : Operand} {c : Nat} {f : Nat → Nat} (p : Pl) (hz : Wd w c 16 f) (hg : o.guard = none) (hop : o.op = .store 252 x y)
    (hx : a.eval x = .pointer (some ⟨c, 0, none⟩)) (hy : a.eval y = placeV p) (hK : wpList Tryz.prog ops Q rest (a.put o.dst undef) (stP w c p)) : wpList Tryz.prog ops Q (o :: rest) a w := by
  have hrun := run_storeP p hz
  refine wpList_plain hg fun K hK' => ?_
  unfold Oper.wp
  simp [execOp, hop, hx, hy, hrun, Result.andThen]
  exact hK' _ _ hK
/-- The world behind a store of a number. -/
def stN (w : World) (c n : Nat) : World := (World.setCell (World.setCell (World.setCell (World.setCell w ⟨c, 0, none⟩ (w64 (lim (n) 0))) ⟨c, 1, none⟩ (w64 (lim (n) 1))) ⟨c, 2, none⟩ (w64 (lim (n) 2))) ⟨c, 3, none⟩ (w64 (lim (n) 3)))
theorem Wd.allN {w : World} {b : Nat} {f : Nat → Nat} (h : Wd w b 4 f) (n : Nat) : Wd (stN w b n) b 4 (lim n) := h.all
theorem Wd.farN {w : World} {b n c : Nat} {f : Nat → Nat} (h : Wd w b n f) (m : Nat) (hbc : b ≠ c) : Wd (stN w c m) b n f := h.far4 hbc
theorem belN {w wr : World} {b : Nat} (h : Below w.heap.size w wr) (n : Nat) (hb : w.heap.size ≤ b) : Below w.heap.size w (stN wr b n) := bel_all h hb
theorem run_storeA {w : World} {c : Nat} {f : Nat → Nat} (n : Nat) (h : Wd w c 4 f) : (Instr.storeAt 249 (.pointer (some ⟨c, 0, none⟩)) (numV n)).run Tryz.prog w = .ok () (stN w c n) := by
  have z0 := h.at_ 0 (by omega)
  have z1 := h.at_ 1 (by omega)
  have z2 := h.at_ 2 (by omega)
  have z3 := h.at_ 3 (by omega)
  have zl := h.lt
  have zf := h.thaw
  clear h
  unfold stN
  go_simp
theorem wpList_storeA {ops : Array Oper} {rest : List Oper} {o : Oper} {a : Act} {Q : Exit → Act → World → Prop} {w : World} {x y : Operand} {c : Nat} {f : Nat → Nat} (n : Nat) (hz : Wd w c 4 f) (hg : o.guard = none) (hop : o.op = .store 249 x y)
    (hx : a.eval x = .pointer (some ⟨c, 0, none⟩)) (hy : a.eval y = numV n) (hK : wpList Tryz.prog ops Q rest (a.put o.dst undef) (stN w c n)) : wpList Tryz.prog ops Q (o :: rest) a w := by
  have hrun := run_storeA n hz
  refine wpList_plain hg fun K hK' => ?_
  unfold Oper.wp
  simp [execOp, hop, hx, hy, hrun, Result.andThen]
  exact hK' _ _ hK
theorem wpList_loadX {P : Program} {ops : Array Oper} {rest : List Oper} {o : Oper} {a : Act} {Q : Exit → Act → World → Prop} {w : World} {x : Operand} {t : TypeId} {p v : Value} (hrun : (Instr.loadAt t p).run P w = .ok v w) (hg : o.guard = none) (hop : o.op = .load t x)
    (hx : a.eval x = p) (hK : wpList P ops Q rest (a.put o.dst v) w) : wpList P ops Q (o :: rest) a w := by
  refine wpList_plain hg fun K hK' => ?_
  unfold Oper.wp
  simp [execOp, hop, hx, hrun, Result.andThen]
  exact hK' _ _ hK
theorem wpList_callX {P : Program} {ops : Array Oper} {rest : List Oper} {o : Oper} {a : Act} {Q : Exit → Act → World → Prop} {w : World} {f : FuncId} {A : Array Operand} {T : Array TypeId} {args : Array Value} {v : Value}
    (hc : Calls P f args w fun e w' => e = .returned v ∧ Below w.heap.size w w') (hent : (callFunc f args).run P w = .ok (.enter f args) w) (hg : o.guard = none) (hop : o.op = .call { callee := .value (.func f), args := A, argTypes := T })
    (hx : A.map a.eval = args) (hK : ∀ w', Below w.heap.size w w' → wpList P ops Q rest (a.put o.dst v) w') : wpList P ops Q (o :: rest) a w := by
  refine wpList_plain hg fun K hK' => ?_
  unfold Oper.wp
  have hr : (execOp a.eval o).run P w = .ok (.enter f args) w := by
    simp [execOp, hop, resolve, Deferred.ofValue, Act.eval, invoke, hx, hent]
  rw [hr]
  exact hc.mono fun e w' ⟨h1, h2⟩ => by subst h1; exact hK' _ _ (hK w' h2)
theorem run_loadP {w : World} {c : Nat} {p : Pl} (h : Wd w c 16 (plf p)) : (Instr.loadAt 252 (.pointer (some ⟨c, 0, none⟩))).run Tryz.prog w = .ok (placeV p) w := by
  obtain ⟨z_0, z_1, z_2, z_3, z_4, z_5, z_6, z_7, z_8, z_9, z_10, z_11, z_12, z_13, z_14, z_15, zl⟩ := wpl h
  clear h
  go_simp
theorem run_loadA {w : World} {c n : Nat} (h : Wd w c 4 (lim n)) : (Instr.loadAt 249 (.pointer (some ⟨c, 0, none⟩))).run Tryz.prog w = .ok (numV n) w := by
  obtain ⟨z_0, z_1, z_2, z_3, zl⟩ := wd4 h
  clear h
  go_simp
theorem enter_sum (args : Array Value) (w : World) : (callFunc 161 args).run Tryz.prog w = .ok (.enter 161 args) w := by
  go_simp
theorem start3 (w : World) (x y z : Obj) : Below w.heap.size w (((w.alloc x).alloc y).alloc z) ∧ (((w.alloc x).alloc y).alloc z).heap[w.heap.size]? = some x ∧ (((w.alloc x).alloc y).alloc z).heap[w.heap.size + 1]? = some y ∧
    (((w.alloc x).alloc y).alloc z).heap[w.heap.size + 2]? = some z := by
  obtain ⟨a1, a2, a3⟩ := start2 w x y
  have b1 := (Below.refl _ ((w.alloc x).alloc y)).alloc (Nat.le_refl _) z
  have b2 := heap_alloc_new ((w.alloc x).alloc y) z
  rw [World.size_alloc, World.size_alloc] at b2
  exact ⟨a1.trans (b1.mono a1.size), Vo.heap_below a2 b1, Vo.heap_below a3 b1, b2⟩
theorem wp_start3 {c : Code} {P : Program} {Q : Exit → Act → World → Prop} {act : Act} {w : World} {x y z : Obj} (h : ∀ w0, Below w.heap.size w w0 → w0.heap[w.heap.size]? = some x → w0.heap[w.heap.size + 1]? = some y → w0.heap[w.heap.size + 2]? = some z → c.wp P Q act w0) : c.wp P Q act (((w.alloc x).alloc y).alloc z) :=
  have ⟨a1, a2, a3, a4⟩ := start3 w x y z
  h _ a1 a2 a3 a4

theorem minusP_any (x y : Nat) (w : World) (hx : x < 2 ^ 256) :
    Calls Tryz.prog 153 #[pointV x y] w fun e w' => e = .returned (pointV (subN 0 x) y) ∧ Below w.heap.size w w' := by
  have HS : Hid (∀ w, Calls Tryz.prog 194 #[.agg #[.int .u64 0, .int .u64 0, .int .u64 0, .int .u64 0], numV x] w fun e w' => e = .returned (numV (subN 0 x)) ∧ Below w.heap.size w w') := Lib.hid (fun w => by
    have h := sub_any 0 x w (by decide) hx
    rw [num0] at h
    exact h)
  clear hx
  go_enter Tryz.func153, Tryz.ntmps153
  go_upto_region 1 with (fail)
  refine wp_start2 ?_
  intro w0 B0 hA hO
  have A0 := wd_po hA
  have O0 := wdz8 hO
  clear hA hO
  obtain ⟨a_0, a_1, a_2, a_3, a_4, a_5, a_6, a_7, la⟩ := wpo A0
  (refine wp_region_mildF 7 [false, false, false, false, false, false, false] (by kernel_rfl) (by kernel_rfl) ?_; simp only [List.take_succ_cons, List.take_zero, List.drop_succ_cons, List.drop_zero])
  (apply wpMildF_const; (focus (intro wm hm; have hrw := fun p h => Go.RowKit.Below.cell (p := p) hm h; go_simp; exact rfl)); simp only [List.cons_append, List.nil_append])
  (apply wpMildF_const; (focus (intro wm hm; have hrw := fun p h => Go.RowKit.Below.cell (p := p) hm h; go_simp; exact rfl)); simp only [List.cons_append, List.nil_append])
  (apply wpMildF_const; (focus (intro wm hm; have hrw := fun p h => Go.RowKit.Below.cell (p := p) hm h; go_simp; exact rfl)); simp only [List.cons_append, List.nil_append])
  (apply wpMildF_call; (focus (intro wm hm; have hrw := fun p h => Go.RowKit.Below.cell (p := p) hm h; go_simp; (exact Calls.mild (HS.out _)))); (focus (first | exact Go.md_stays_eq _ | (intro v w w' h hb; first | exact Bsl.below h hb | exact Sizes.stays _ _ _ h hb | (obtain ⟨c, h1, h2, h3⟩ := h; exact ⟨c, h1, h2, Vo.heap_below h3 hb⟩) | fail))); simp only [List.cons_append, List.nil_append])
  (apply wpMildF_const; (focus (intro wm hm; have hrw := fun p h => Go.RowKit.Below.cell (p := p) hm h; go_simp; exact rfl)); simp only [List.cons_append, List.nil_append])
  (apply wpMildF_const; (focus (intro wm hm; have hrw := fun p h => Go.RowKit.Below.cell (p := p) hm h; go_simp; exact rfl)); simp only [List.cons_append, List.nil_append])
  (apply wpMildF_const; (focus (intro wm hm; have hrw := fun p h => Go.RowKit.Below.cell (p := p) hm h; go_simp; exact rfl)); simp only [List.cons_append, List.nil_append])
  (refine wpMildF_nil ?_; intro wm hm; simp only [mildAllF, MWord.blk_at, md_off, forall_eq, forall_exists_index, and_imp, and_true, true_implies, Act.put, List.setIfInBounds_toArray, List.set_cons_succ, List.set_cons_zero, forall_eq_apply_imp_iff])
  have O3 := O0.below hm
  have B3 := B0.trans (hm.mono B0.size)
  obtain ⟨o_0, o_1, o_2, o_3, o_4, o_5, o_6, o_7, lo, fo⟩ := wz8 O3
  have hzs := B3.size
  clear hm a_0 a_1 a_2 a_3 a_4 a_5 a_6 a_7 la
  go_wp2
  refine bodyPost_ret (by simp [results, Tryz.results153, go_sem, o_0, o_1, o_2, o_3, o_4, o_5, o_6, o_7]; try rfl) rfl ?_
  exact ⟨rfl, by go_grown⟩

noncomputable def timesQ (F : Pl) (n : Nat) : Nat → Pl
  | 0 => ⟨0, 1, 1, mulL [0, 1]⟩
  | k + 1 => if bitN n (255 - k) = 1 then sumP twN (sumP twN (timesQ F n k) (timesQ F n k)) F else sumP twN (timesQ F n k) (timesQ F n k)
theorem timesP_ex : ∃ f : Pl → Nat → Nat → Pl, ∀ F n, f F n 0 = ⟨0, 1, 1, mulL [0, 1]⟩ ∧ ∀ k, f F n (k + 1) = if bitN n (255 - k) = 1 then sumP twN (sumP twN (f F n k) (f F n k)) F else sumP twN (f F n k) (f F n k) :=
  ⟨timesQ, fun _ _ => ⟨rfl, fun _ => rfl⟩⟩
/-- Behind k of a number's bits, from the highest on. -/
noncomputable def timesP : Pl → Nat → Nat → Pl := Classical.choose timesP_ex
theorem timesP_zero (F : Pl) (n : Nat) : timesP F n 0 = ⟨0, 1, 1, mulL [0, 1]⟩ := (Classical.choose_spec timesP_ex F n).1
theorem timesP_succ (F : Pl) (n k : Nat) : timesP F n (k + 1) = if bitN n (255 - k) = 1 then sumP twN (sumP twN (timesP F n k) (timesP F n k)) F else sumP twN (timesP F n k) (timesP F n k) := (Classical.choose_spec timesP_ex F n).2 k
theorem timesP_ok (F : Pl) (n : Nat) : ∀ k, (timesP F n k).Ok
  | 0 => by rw [timesP_zero]; exact ⟨by show 0 < _; decide, by show 1 < _; decide, by show 1 < _; decide, mulL_le _⟩
  | k + 1 => by
    rw [timesP_succ]
    split
    · exact sumP_ok _ _ _
    · exact sumP_ok _ _ _
theorem timesP_step (F : Pl) (n i : Nat) (hi : i < 256) : timesP F n (256 - i) = if bitN n i = 1 then sumP twN (sumP twN (timesP F n (256 - (i + 1))) (timesP F n (256 - (i + 1)))) F else sumP twN (timesP F n (256 - (i + 1))) (timesP F n (256 - (i + 1))) := by
  obtain ⟨k, hk, hk2⟩ : ∃ k, 256 - i = k + 1 ∧ 255 - k = i := ⟨255 - i, by omega, by omega⟩
  rw [hk, show 256 - (i + 1) = k by omega, timesP_succ, hk2]
noncomputable def timesX (x y n : Nat) : Nat := mulL [(timesP ⟨x, y, 1, mulL [x, y]⟩ n 256).x, invN (timesP ⟨x, y, 1, mulL [x, y]⟩ n 256).z]
noncomputable def timesY (x y n : Nat) : Nat := mulL [(timesP ⟨x, y, 1, mulL [x, y]⟩ n 256).y, invN (timesP ⟨x, y, 1, mulL [x, y]⟩ n 256).z]

structure TmRnd (w : World) (c5 c6 c7 n : Nat) (F Q : Pl) (wr : World) : Prop where
  bel : Below w.heap.size w wr
  rn : Wd wr (w.heap.size + 1) 4 (lim n)
  ro : Wd wr (w.heap.size + 2) 8 (fun _ => 0)
  rx : Wd wr c5 4 (lim twN)
  rq : Wd wr c6 16 (plf Q)
  rf : Wd wr c7 16 (plf F)
  g5 : w.heap.size + 2 < c5
  g6 : w.heap.size + 2 < c6
  g7 : w.heap.size + 2 < c7
  n56 : c5 ≠ c6
  n67 : c6 ≠ c7
theorem TmRnd.below {w wr w' : World} {c5 c6 c7 n : Nat} {F Q : Pl} (h : TmRnd w c5 c6 c7 n F Q wr) (hb : Below wr.heap.size wr w') : TmRnd w c5 c6 c7 n F Q w' :=
  ⟨h.bel.trans (hb.mono h.bel.size), h.rn.below hb, h.ro.below hb, h.rx.below hb, h.rq.below hb, h.rf.below hb, h.g5, h.g6, h.g7, h.n56, h.n67⟩
theorem TmRnd.set {w wr : World} {c5 c6 c7 n : Nat} {F Q : Pl} (h : TmRnd w c5 c6 c7 n F Q wr) (R : Pl) : TmRnd w c5 c6 c7 n F R (stP wr c6 R) := by
  obtain ⟨h1, h2, h3, h4, h5, h6, h7, h8, h9, h10, h11⟩ := h
  exact ⟨belP h1 R (by omega), h2.farP R (by omega), h3.farP R (by omega), h4.farP R (by omega), h5.allP R, h6.farP R (by omega), h7, h8, h9, h10, h11⟩

set_option maxHeartbeats 16000000 in
theorem times_point (x y n : Nat) (w : World) (hx : x < 2 ^ 256) (hy : y < 2 ^ 256) :
    Calls Tryz.prog 109 #[pointV x y, numV n] w fun e w' => e = .returned (pointV (timesX x y n) (timesY x y n)) ∧ Below w.heap.size w w' := by
  have HF1 : Hid (∀ w, Calls Tryz.prog 160 #[pointV x y] w fun e w' => e = .returned (placeV ⟨x, y, 1, mulL [x, y]⟩) ∧ Below w.heap.size w w') := Lib.hid (fun w => far_any x y w hx hy)
  have HF0 : Hid (∀ w, Calls Tryz.prog 160 #[pointV 0 1] w fun e w' => e = .returned (placeV ⟨0, 1, 1, mulL [0, 1]⟩) ∧ Below w.heap.size w w') := Lib.hid (fun w => far_any 0 1 w (by decide) (by decide))
  obtain ⟨F, hF⟩ : ∃ F, F = Pl.mk x y 1 (mulL [x, y]) := ⟨_, rfl⟩
  have HFO : Hid F.Ok := Lib.hid (by rw [hF]; exact ⟨hx, hy, by show 1 < _; decide, mulL_le _⟩)
  have HFE := Lib.hid hF
  rw [← hF] at HF1
  obtain ⟨Q0, hQ⟩ : ∃ Q, Q = Pl.mk 0 1 1 (mulL [0, 1]) := ⟨_, rfl⟩
  have HQ0 : Hid (timesP F n (256 - 256) = Q0) := Lib.hid (by rw [hQ, Nat.sub_self, timesP_zero])
  rw [← hQ] at HF0
  clear hx hy hF hQ
  go_enter Tryz.func109, Tryz.ntmps109
  go_upto_region 1 with (fail)
  refine wp_start3 ?_
  intro w0 B0 hA hN hO
  have A0 := wd_po hA
  have N0 := wd_four hN
  have O0 := wdz8 hO
  clear hA hN hO
  obtain ⟨a_0, a_1, a_2, a_3, a_4, a_5, a_6, a_7, la⟩ := wpo A0
  (refine wp_region_mildF 8 [false, false, false, false, false, true, true, true] (by kernel_rfl) (by kernel_rfl) ?_; simp only [List.take_succ_cons, List.take_zero, List.drop_succ_cons, List.drop_zero])
  (apply wpMildF_call; (focus (intro wm hm; have hrw := fun p h => Go.RowKit.Below.cell (p := p) hm h; go_simp; (exact Calls.mild (open_any _)))); (focus (first | exact Go.md_stays_eq _ | (intro v w w' h hb; first | exact Bsl.below h hb | exact Sizes.stays _ _ _ h hb | (obtain ⟨c, h1, h2, h3⟩ := h; exact ⟨c, h1, h2, Vo.heap_below h3 hb⟩) | fail))); simp only [List.cons_append, List.nil_append])
  (apply wpMildF_call; (focus (intro wm hm; have hrw := fun p h => Go.RowKit.Below.cell (p := p) hm h; go_simp; (exact Calls.mild (naught_any _)))); (focus (first | exact Go.md_stays_eq _ | (intro v w w' h hb; first | exact Bsl.below h hb | exact Sizes.stays _ _ _ h hb | (obtain ⟨c, h1, h2, h3⟩ := h; exact ⟨c, h1, h2, Vo.heap_below h3 hb⟩) | fail))); simp only [List.cons_append, List.nil_append])
  (apply wpMildF_call; (focus (intro wm hm; have hrw := fun p h => Go.RowKit.Below.cell (p := p) hm h; go_simp; (exact Calls.mild (HF0.out _)))); (focus (first | exact Go.md_stays_eq _ | (intro v w w' h hb; first | exact Bsl.below h hb | exact Sizes.stays _ _ _ h hb | (obtain ⟨c, h1, h2, h3⟩ := h; exact ⟨c, h1, h2, Vo.heap_below h3 hb⟩) | fail))); simp only [List.cons_append, List.nil_append])
  (apply wpMildF_const; (focus (intro wm hm; have hrw := fun p h => Go.RowKit.Below.cell (p := p) hm h; go_simp; exact rfl)); simp only [List.cons_append, List.nil_append])
  (apply wpMildF_call; (focus (intro wm hm; have hrw := fun p h => Go.RowKit.Below.cell (p := p) hm h; go_simp; (exact Calls.mild (HF1.out _)))); (focus (first | exact Go.md_stays_eq _ | (intro v w w' h hb; first | exact Bsl.below h hb | exact Sizes.stays _ _ _ h hb | (obtain ⟨c, h1, h2, h3⟩ := h; exact ⟨c, h1, h2, Vo.heap_below h3 hb⟩) | fail))); simp only [List.cons_append, List.nil_append])
  (apply wpMildF_new; (focus (intro wm hm; have hrw := fun p h => Go.RowKit.Below.cell (p := p) hm h; go_simp; first | exact rfl | exact ⟨rfl, rfl⟩)); simp only [List.cons_append, List.nil_append])
  (apply wpMildF_new; (focus (intro wm hm; have hrw := fun p h => Go.RowKit.Below.cell (p := p) hm h; go_simp; first | exact rfl | exact ⟨rfl, rfl⟩)); simp only [List.cons_append, List.nil_append])
  (apply wpMildF_new; (focus (intro wm hm; have hrw := fun p h => Go.RowKit.Below.cell (p := p) hm h; go_simp; first | exact rfl | exact ⟨rfl, rfl⟩)); simp only [List.cons_append, List.nil_append])
  (refine wpMildF_nil ?_; intro wm hm; simp only [mildAllF, MWord.blk_at, md_off, forall_eq, forall_exists_index, and_imp, and_true, true_implies, Act.put, List.setIfInBounds_toArray, List.set_cons_succ, List.set_cons_zero, forall_eq_apply_imp_iff])
  intro c5 l5 h5 c6 l6 h6 n56 c7 l7 h7 n67 n57
  have Z5 := wdz4 h5
  have Z6 := wdz16 h6
  have Z7 := wdz16 h7
  have lo0 := O0.lt
  have m56 := n56.symm
  have m57 := n57.symm
  have m67 := n67.symm
  have R0 : TmRnd w c5 c6 c7 n F Q0 (stP (stP (stN wm c5 twN) c6 Q0) c7 F) :=
    ⟨belP (belP (belN (B0.trans (hm.mono B0.size)) twN (by omega)) Q0 (by omega)) F (by omega), (((N0.below hm).farN twN (by have := N0.lt; omega)).farP Q0 (by have := N0.lt; omega)).farP F (by have := N0.lt; omega),
     (((O0.below hm).farN twN (by omega)).farP Q0 (by omega)).farP F (by omega), ((Z5.allN twN).farP Q0 (by omega)).farP F (by omega), ((Z6.farN twN (by omega)).allP Q0).farP F (by omega), ((Z7.farN twN (by omega)).farP Q0 (by omega)).allP F, by omega, by omega, by omega, n56, n67⟩
  refine wpList_storeA twN Z5 rfl rfl rfl rfl ?_
  refine wpList_storeP Q0 (Z6.farN twN (by omega)) rfl rfl rfl rfl ?_
  refine wpList_storeP F ((Z7.farN twN (by omega)).farP Q0 (by omega)) rfl rfl rfl rfl ?_
  simp only [Act.put]
  have HR := Lib.hid R0
  clear a_0 a_1 a_2 a_3 a_4 a_5 a_6 a_7 la A0 N0 O0 R0 lo0 Z5 Z6 Z7 h5 h6 h7 l5 l6 l7 B0
  generalize stP (stP (stN wm c5 twN) c6 Q0) c7 F = w1 at *
  clear hm m56 m57 m67 n56 n57 n67
  go_upto_region 2 with (fail)
  have R0 := HR.out
  clear HR
  generalize placeV Q0 = v11
  generalize placeV F = v13
  generalize Value.agg #[w64 (lim x 0), w64 (lim x 1), w64 (lim x 2), w64 (lim x 3), w64 (lim y 0), w64 (lim y 1), w64 (lim y 2), w64 (lim y 3)] = v12
  generalize pointV 0 1 = v10
  generalize pointV x y = v00
  generalize numV twN = v09
  generalize numV n = v01
  go_wp2_with fail
  go_loopw [8] (fun i wr => ∃ (j : Nat) (z : Int), j ≤ 256 ∧ z = (j : Int) - 1 ∧ i = .int .i64 z ∧ TmRnd w c5 c6 c7 n F (timesP F n (256 - j)) wr) (fun i _ => (intOf i + 1).toNat)
  case atStart => exact ⟨256, 255, by omega, by omega, rfl, by rw [HQ0.out]; exact R0⟩
  case round =>
    obtain ⟨j, z, hj, hz, rfl, RN⟩ := hrel
    clear R0 HF0 HF1 HQ0
    by_cases hj0 : j = 0
    · obtain rfl : z = -1 := by omega
      subst hj0
      have HNR : Hid (∀ w, Calls Tryz.prog 162 #[placeV (timesP F n (256 - 0))] w fun e w' => e = .returned (pointV (timesX x y n) (timesY x y n)) ∧ Below w.heap.size w w') := Lib.hid (fun w => by
        have := near_any (timesP F n (256 - 0)) w (timesP_ok _ _ _)
        unfold timesX timesY
        rw [← HFE.out]
        exact this)
      clear hj hz
      generalize timesP F n (256 - 0) = Q at *
      have HRN := Lib.hid RN
      obtain ⟨q_0, q_1, q_2, q_3, q_4, q_5, q_6, q_7, q_8, q_9, q_10, q_11, q_12, q_13, q_14, q_15, lq⟩ := wpl RN.rq
      clear RN
      go_upto_region 8 with (fail)
      (refine wp_region_mildS 2 [false, false] (by kernel_rfl) ?_; simp only [List.take_succ_cons, List.take_zero, List.drop_succ_cons, List.drop_zero])
      (apply wpMildF_const; (focus (intro wm hm; have hrw := fun p h => Go.RowKit.Below.cell (p := p) hm h; go_simp; exact rfl)); simp only [List.cons_append, List.nil_append])
      (apply wpMildF_call; (focus (intro wm hm; have hrw := fun p h => Go.RowKit.Below.cell (p := p) hm h; go_simp; (exact Calls.mild (HNR.out _)))); (focus (first | exact Go.md_stays_eq _ | (intro v w w' h hb; first | exact Bsl.below h hb | exact Sizes.stays _ _ _ h hb | (obtain ⟨c, h1, h2, h3⟩ := h; exact ⟨c, h1, h2, Vo.heap_below h3 hb⟩) | fail))); simp only [List.cons_append, List.nil_append])
      (refine wpMildF_nil ?_; intro wm hm; simp only [mildAllF, MWord.blk_at, md_off, forall_eq, forall_exists_index, and_imp, and_true, true_implies, Act.put, List.setIfInBounds_toArray, List.set_cons_succ, List.set_cons_zero, forall_eq_apply_imp_iff])
      have R2 := HRN.out.below hm
      obtain ⟨o_0, o_1, o_2, o_3, o_4, o_5, o_6, o_7, lo, fo⟩ := wz8 R2.ro
      have bel := R2.bel
      have hzs := bel.size
      clear hm R2 HRN q_0 q_1 q_2 q_3 q_4 q_5 q_6 q_7 q_8 q_9 q_10 q_11 q_12 q_13 q_14 q_15 lq
      go_wp2
      refine bodyPost_ret (by simp [results, Tryz.results109, go_sem, o_0, o_1, o_2, o_3, o_4, o_5, o_6, o_7]; try rfl) rfl ?_
      exact ⟨rfl, by go_grown⟩
    · obtain ⟨i, rfl⟩ : ∃ i, j = i + 1 := ⟨j - 1, by omega⟩
      obtain rfl : z = (i : Int) := by omega
      have hi0 : (0 : Int) ≤ (i : Int) := by omega
      have hi1 : IntKind.i64.wrap ((i : Int) - 1) = (i : Int) - 1 := by rw [IntKind.wrap_i64]; omega
      have hi256 : i < 256 := by omega
      have HI := Lib.hid hi256
      have HST := Lib.hid (timesP_step F n i hi256)
      have HQO := Lib.hid (timesP_ok F n (256 - (i + 1)))
      clear hj hz hj0 hi256
      generalize timesP F n (256 - (i + 1)) = Q at *
      have HSUM := Lib.hid (fun w => sum_any twN Q Q w twN_lt HQO.out HQO.out)
      have HRN := Lib.hid RN
      clear RN
      go_upto_region 5 with (fail)
      refine wp_region_lit ?_
      refine wpList_loadX (run_loadA HRN.out.rx) rfl rfl rfl ?_
      refine wpList_loadX (run_loadP HRN.out.rq) rfl rfl rfl ?_
      refine wpList_loadX (run_loadP HRN.out.rq) rfl rfl rfl ?_
      refine wpList_callX (HSUM.out _) (enter_sum _ _) rfl rfl (by simp [Act.put, Act.eval]) fun wm hm => ?_
      simp only [Act.put]
      have R2 := HRN.out.below hm
      clear HRN hm
      have hz := R2.rq
      obtain ⟨D, hD⟩ : ∃ D, D = sumP twN Q Q := ⟨_, rfl⟩
      have HDO : Hid D.Ok := Lib.hid (hD ▸ sumP_ok _ _ _)
      rw [← hD] at HST ⊢
      have HR3 := Lib.hid (R2.set D)
      clear R2 hD HSUM HQO
      refine wpList_storeP D hz rfl rfl rfl rfl ?_
      simp only [Act.put]
      clear hz
      generalize stP wm c6 D = w2 at *
      generalize placeV D = v21
      generalize placeV Q = v19
      go_upto_region 6 with (fail)
      have hq : (i : Int).tdiv 64 = ((i / 64 : Nat) : Int) := by rw [Int.tdiv_eq_ediv_of_nonneg hi0]; omega
      have hr : (i : Int).tmod 64 = ((i % 64 : Nat) : Int) := by rw [Int.tmod_eq_emod_of_nonneg hi0]; omega
      have hq4 : (i / 64 : Nat) < 4 := by have := HI.out; omega
      have hq0 : (0 : Int) ≤ ((i / 64 : Nat) : Int) := by omega
      have hq5 : ((i / 64 : Nat) : Int) < 4 := by omega
      have hr0 : (0 : Int) ≤ ((i % 64 : Nat) : Int) := by omega
      have hr5 : ((i % 64 : Nat) : Int) < 64 := by omega
      have HB := Lib.hid (lim_bit n i)
      have nq := HR3.out.rn.at_ (i / 64) hq4
      have ln := HR3.out.rn.lt
      clear hq4
      generalize i / 64 = q at *
      generalize i % 64 = r at *
      have he : bits .and .u64 (((lim n q : Nat) : Int) / 2 ^ r) 1 = ((bitN n i : Nat) : Int) := by
        have e : (((lim n q : Nat) : Int) / 2 ^ r) = ((lim n q / 2 ^ r : Nat) : Int) := by push_cast; rfl
        rw [e, and1_nat _ (Nat.lt_of_le_of_lt (Nat.div_le_self _ _) (lim_lt _ _)), HB.out]
      by_cases hbit : bitN n i = 1
      · have hbe : (((bitN n i : Nat) : Int) == 1) = true := by rw [hbit]; rfl
        have HE : Hid (sumP twN D F = timesP F n (256 - i)) := Lib.hid (by rw [HST.out, if_pos hbit])
        have HSUM := Lib.hid (fun w => sum_any twN D F w twN_lt HDO.out HFO.out)
        clear HST hbit HB
        go_upto_region 7 with (fail)
        clear nq ln hq hr hq0 hq5 hr0 hr5 he
        refine wp_region_lit ?_
        refine wpList_loadX (run_loadA HR3.out.rx) rfl rfl rfl ?_
        refine wpList_loadX (run_loadP HR3.out.rq) rfl rfl rfl ?_
        refine wpList_loadX (run_loadP HR3.out.rf) rfl rfl rfl ?_
        refine wpList_callX (HSUM.out _) (enter_sum _ _) rfl rfl (by simp [Act.put, Act.eval]) fun wm hm => ?_
        simp only [Act.put]
        have R4 := HR3.out.below hm
        clear HR3 hm
        have hz := R4.rq
        have HR5 := Lib.hid (R4.set (sumP twN D F))
        clear R4
        generalize sumP twN D F = E at *
        refine wpList_storeP E hz rfl rfl rfl rfl ?_
        simp only [Act.put]
        clear hz
        generalize stP wm c6 E = w3 at *
        go_wp2_with fail
        go_roundw
        case rel => exact ⟨i, (i : Int) - 1, by have := HI.out; omega, rfl, rfl, by rw [← HE.out]; exact HR5.out⟩
        case measure => simp [intOf]
      · have hbe : (((bitN n i : Nat) : Int) == 1) = false := by simp; omega
        have HE : Hid (D = timesP F n (256 - i)) := Lib.hid (by rw [HST.out, if_neg hbit])
        clear HST hbit HB
        go_wp2_with fail
        go_roundw
        case rel => exact ⟨i, (i : Int) - 1, by have := HI.out; omega, rfl, rfl, by rw [← HE.out]; exact HR3.out⟩
        case measure => simp [intOf]
end Go.Proofs.YtlgghcffmnofdaaGreatDoor.Nu
