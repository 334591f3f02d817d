/-
  The walks of curve: Base, adder.add.
-/
import Derived.Test.YtlgghcffmnofdaaGreatDoorCurveCQ

namespace Go.Proofs.YtlgghcffmnofdaaGreatDoor.Nu
open Go Go.RowKit Go.Proofs.YtlgghcffmnofdaaGreatDoor.Cn
set_option linter.unusedSimpArgs false
set_option maxRecDepth 100000

set_option maxHeartbeats 4000000 in
theorem base_ex : ∃ a b : Nat, a < 2 ^ 256 ∧ b < 2 ^ 256 ∧ ∀ w, Calls Tryz.prog 108 #[] w fun e w' => e = .returned (pointV a b) ∧ Below w.heap.size w w' := by
  have HI : Hid (∀ w, Calls Tryz.prog 157 #[.agg #[.int .u64 5, .int .u64 0, .int .u64 0, .int .u64 0]] w fun e w' => e = .returned (numV (invN 5)) ∧ Below w.heap.size w w') := Lib.hid (fun w => by
    have h := inverse_any 5 w (by decide)
    rw [numV_small 5 (by decide)] at h
    exact h)
  have hfx : ∃ vi, vi = invN 5 ∧ vi < 2 ^ 256 := ⟨_, rfl, invN_lt _⟩
  obtain ⟨vi, hv, hvl⟩ := hfx
  rw [← hv] at HI
  have HVL := Lib.hid hvl
  clear hv hvl
  refine ⟨otherX (mulL [4, vi]), mulL [4, vi], otherX_lt _, mulL_le _, fun w => ?_⟩
  have hfy : ∃ y, y = mulL [4, vi] := ⟨_, rfl⟩
  obtain ⟨y, hy⟩ := hfy
  have HY := Lib.hid hy
  have HYL : Hid (y < 2 ^ 256) := Lib.hid (hy ▸ mulL_le _)
  rw [← hy]
  clear hy
  go_enter Tryz.func108, Tryz.ntmps108
  go_upto_region 1 with (fail)
  refine wp_start1 ?_
  intro w0 B0 hO
  have O0 := wdz8 hO
  clear hO
  (refine wp_region_mildS 6 [false, false, false, false, false, true] (by kernel_rfl) ?_; simp only [List.take_succ_cons, List.take_zero, List.drop_succ_cons, List.drop_zero])
  (apply wpMildF_const; (focus (intro wm hm; have hrw := fun p h => Go.RowKit.Below.cell (p := p) hm h; go_simp; exact rfl)); simp only [List.cons_append, List.nil_append])
  (apply wpMildF_const; (focus (intro wm hm; have hrw := fun p h => Go.RowKit.Below.cell (p := p) hm h; go_simp; exact rfl)); simp only [List.cons_append, List.nil_append])
  (apply wpMildF_call; (focus (intro wm hm; have hrw := fun p h => Go.RowKit.Below.cell (p := p) hm h; go_simp; (exact Calls.mild (HI.out _)))); (focus (first | exact Go.md_stays_eq _ | (intro v w w' h hb; first | exact Bsl.below h hb | exact Sizes.stays _ _ _ h hb | (obtain ⟨c, h1, h2, h3⟩ := h; exact ⟨c, h1, h2, Vo.heap_below h3 hb⟩) | fail))); simp only [List.cons_append, List.nil_append])
  (refine wpMildF_some (fun v w' => ∃ c, v = .slice (some ⟨c, 0, none⟩) 2 2 ∧ 0 ≤ c ∧ w'.heap[c]? = some (Obj.cells #[.int .u64 4, .int .u64 0, .int .u64 0, .int .u64 0, w64 (lim vi 0), w64 (lim vi 1), w64 (lim vi 2), w64 (lim vi 3)] 150)) ?_ ?_ ?_; (focus (intro wm hm; have hrw := fun p h => Go.RowKit.Below.cell (p := p) hm h; go_simp; (exact ⟨(Below.refl _ _).alloc (Nat.le_refl _) _, by first | exact heap_alloc_new _ _ | exact (Array.getElem?_eq_some_iff.1 (heap_alloc_new _ _)).2 | exact ⟨Nat.zero_le _, heap_alloc_new _ _⟩⟩))); (focus (first | exact Go.md_stays_eq _ | (intro v w w' h hb; first | exact Bsl.below h hb | exact Sizes.stays _ _ _ h hb | (obtain ⟨c, h1, h2, h3⟩ := h; exact ⟨c, h1, h2, Vo.heap_below h3 hb⟩) | fail))); simp only [List.cons_append, List.nil_append])
  (apply wpMildF_call; (focus (intro wm hm; have hrw := fun p h => Go.RowKit.Below.cell (p := p) hm h; go_simp; (intro u c hu hc; subst hu; have hm4 := mul2_any 4 vi c 2 _ (nums2 hc) (by decide) HVL.out; rw [← HY.out] at hm4; exact Calls.mild hm4))); (focus (first | exact Go.md_stays_eq _ | (intro v w w' h hb; first | exact Bsl.below h hb | exact Sizes.stays _ _ _ h hb | (obtain ⟨c, h1, h2, h3⟩ := h; exact ⟨c, h1, h2, Vo.heap_below h3 hb⟩) | fail))); simp only [List.cons_append, List.nil_append])
  (apply wpMildF_new; (focus (intro wm hm; have hrw := fun p h => Go.RowKit.Below.cell (p := p) hm h; go_simp; first | exact rfl | exact ⟨rfl, rfl⟩)); simp only [List.cons_append, List.nil_append])
  (refine wpMildF_nil ?_; intro wm hm; simp only [mildAllF, MWord.blk_at, md_off, forall_eq, forall_exists_index, and_imp, and_true, true_implies, Act.put, List.setIfInBounds_toArray, List.set_cons_succ, List.set_cons_zero, forall_eq_apply_imp_iff])
  intro _ _ _ _ _ b b_l b_h
  ((have Zb := wd_zero b_h); (obtain ⟨b_0, b_1, b_2, b_3, b_s, b_f⟩ := wz4 Zb); (go_upto_region 2 with (fail)); (have hb := (bel_all (n := y) hm b_l)); (have B1 := B0.trans (hb.mono B0.size)); (have O1 := O0.below hb); (have Cb := (Zb.all (n := y))); (clear hb hm Zb b_0 b_1 b_2 b_3 b_s b_f b_h b_l); (generalize (World.setCell (World.setCell (World.setCell (World.setCell wm ⟨b, 0, none⟩ (w64 (lim (y) 0))) ⟨b, 1, none⟩ (w64 (lim (y) 1))) ⟨b, 2, none⟩ (w64 (lim (y) 2))) ⟨b, 3, none⟩ (w64 (lim (y) 3))) = w1 at *))
  obtain ⟨b0, b1, b2, b3, lb⟩ := wd4 Cb
  have HO := Lib.hid (fun w => other_any y w HYL.out)
  (refine wp_region_mildS 6 [false, false, false, false, false, true] (by kernel_rfl) ?_; simp only [List.take_succ_cons, List.take_zero, List.drop_succ_cons, List.drop_zero])
  (apply wpMildF_const; (focus (intro wm hm; have hrw := fun p h => Go.RowKit.Below.cell (p := p) hm h; go_simp; exact rfl)); simp only [List.cons_append, List.nil_append])
  (apply wpMildF_call; (focus (intro wm hm; have hrw := fun p h => Go.RowKit.Below.cell (p := p) hm h; go_simp; (exact Calls.mild (HO.out _)))); (focus (first | exact Go.md_stays_eq _ | (intro v w w' h hb; first | exact Bsl.below h hb | exact Sizes.stays _ _ _ h hb | (obtain ⟨c, h1, h2, h3⟩ := h; exact ⟨c, h1, h2, Vo.heap_below h3 hb⟩) | fail))); simp only [List.cons_append, List.nil_append])
  (apply wpMildF_const; (focus (intro wm hm; have hrw := fun p h => Go.RowKit.Below.cell (p := p) hm h; go_simp; exact rfl)); simp only [List.cons_append, List.nil_append])
  (apply wpMildF_const; (focus (intro wm hm; have hrw := fun p h => Go.RowKit.Below.cell (p := p) hm h; go_simp; exact rfl)); simp only [List.cons_append, List.nil_append])
  (apply wpMildF_const; (focus (intro wm hm; have hrw := fun p h => Go.RowKit.Below.cell (p := p) hm h; go_simp; exact rfl)); simp only [List.cons_append, List.nil_append])
  (apply wpMildF_new; (focus (intro wm hm; have hrw := fun p h => Go.RowKit.Below.cell (p := p) hm h; go_simp; first | exact rfl | exact ⟨rfl, rfl⟩)); simp only [List.cons_append, List.nil_append])
  (refine wpMildF_nil ?_; intro wm hm; simp only [mildAllF, MWord.blk_at, md_off, forall_eq, forall_exists_index, and_imp, and_true, true_implies, Act.put, List.setIfInBounds_toArray, List.set_cons_succ, List.set_cons_zero, forall_eq_apply_imp_iff])
  intro x x_l x_h
  clear b0 b1 b2 b3 lb
  ((have Zx := wd_zero x_h); (obtain ⟨x_0, x_1, x_2, x_3, x_s, x_f⟩ := wz4 Zx); (go_upto_region 3 with (fail)); (have hb := (bel_all (n := otherX y) hm x_l)); (have B2 := B1.trans (hb.mono B1.size)); (have O2 := O1.below hb); (have Cb2 := Cb.below hb); (have Cx := (Zx.all (n := otherX y))); (clear hb hm Zx x_0 x_1 x_2 x_3 x_s x_f x_h x_l); (generalize (World.setCell (World.setCell (World.setCell (World.setCell wm ⟨x, 0, none⟩ (w64 (lim (otherX y) 0))) ⟨x, 1, none⟩ (w64 (lim (otherX y) 1))) ⟨x, 2, none⟩ (w64 (lim (otherX y) 2))) ⟨x, 3, none⟩ (w64 (lim (otherX y) 3))) = w2 at *))
  obtain ⟨b0, b1, b2, b3, lb⟩ := wd4 Cb2
  obtain ⟨x0, x1, x2, x3, lx⟩ := wd4 Cx
  obtain ⟨o0, o1, o2, o3, o4, o5, o6, o7, lo, fo⟩ := wz8 O2
  have hzs := B2.size
  go_wp2
  refine bodyPost_ret (by simp [results, Tryz.results108, go_sem, o0, o1, o2, o3, o4, o5, o6, o7]; try rfl) rfl ?_
  exact ⟨rfl, by go_grown⟩
/-- The base point. -/
noncomputable def baseX : Nat := Classical.choose base_ex
noncomputable def baseY : Nat := Classical.choose (Classical.choose_spec base_ex)
theorem baseX_lt : baseX < 2 ^ 256 := (Classical.choose_spec (Classical.choose_spec base_ex)).1
theorem baseY_lt : baseY < 2 ^ 256 := (Classical.choose_spec (Classical.choose_spec base_ex)).2.1
theorem base_any (w : World) : Calls Tryz.prog 108 #[] w fun e w' => e = .returned (pointV baseX baseY) ∧ Below w.heap.size w w' := (Classical.choose_spec (Classical.choose_spec base_ex)).2.2 w

abbrev rowt (x y z : Nat) : Obj := .cells #[w64 (lim x 0), w64 (lim x 1), w64 (lim x 2), w64 (lim x 3), w64 (lim y 0), w64 (lim y 1), w64 (lim y 2), w64 (lim y 3), w64 (lim z 0), w64 (lim z 1), w64 (lim z 2), w64 (lim z 3)] 150
theorem nums3 {w : World} {b x y z : Nat} (h : w.heap[b]? = some (rowt x y z)) : Nums w b [x, y, z] := by
  refine ⟨fun i k hi hk => ?_, Vo.heap_lt h⟩
  rw [cell_of_row w b (i * 4 + k) _ _ _ h]
  obtain rfl | rfl | rfl : i = 0 ∨ i = 1 ∨ i = 2 := by simp at hi; omega
  all_goals
    obtain rfl | rfl | rfl | rfl : k = 0 ∨ k = 1 ∨ k = 2 ∨ k = 3 := by omega
    all_goals rfl
theorem mul3_any (x y z b cap : Nat) (w : World) (hn : Nums w b [x, y, z]) (hx : x < 2 ^ 256) (hy : y < 2 ^ 256) (hz : z < 2 ^ 256) :
    Calls Tryz.prog 156 #[.slice (some ⟨b, 0, none⟩) 3 cap] w fun e w' => e = .returned (numV (mulL [x, y, z])) ∧ Below w.heap.size w w' :=
  mulL_any [x, y, z] b cap w hn (by
    intro u hu
    simp only [List.mem_cons, List.not_mem_nil, or_false] at hu
    rcases hu with rfl | rfl | rfl
    · exact hx
    · exact hy
    · exact hz) (by simp)

/-- The sum of two places. -/
def sumA (p q : Pl) : Nat := mulL [subN p.y p.x, subN q.y q.x]
def sumB (p q : Pl) : Nat := mulL [addL [p.y, p.x], addL [q.y, q.x]]
def sumC (tw : Nat) (p q : Pl) : Nat := mulL [p.t, tw, q.t]
def sumD (p q : Pl) : Nat := mulL [p.z, q.z, 2]
def sumP (tw : Nat) (p q : Pl) : Pl :=
  ⟨mulL [subN (sumB p q) (sumA p q), subN (sumD p q) (sumC tw p q)], mulL [addL [sumD p q, sumC tw p q], addL [sumB p q, sumA p q]],
   mulL [subN (sumD p q) (sumC tw p q), addL [sumD p q, sumC tw p q]], mulL [subN (sumB p q) (sumA p q), addL [sumB p q, sumA p q]]⟩
theorem sumP_ok (tw : Nat) (p q : Pl) : (sumP tw p q).Ok := ⟨mulL_le _, mulL_le _, mulL_le _, mulL_le _⟩
theorem addL_le (l : List Nat) : addL l < 2 ^ 256 := Nat.lt_trans (addL_lt _) (by decide)

set_option maxHeartbeats 16000000 in
theorem sum_any (tw : Nat) (p q : Pl) (w : World) (ht : tw < 2 ^ 256) (hp : p.Ok) (hq : q.Ok) :
    Calls Tryz.prog 161 #[numV tw, placeV p, placeV q] w fun e w' => e = .returned (placeV (sumP tw p q)) ∧ Below w.heap.size w w' := by
  have HT := Lib.hid ht
  have HP := Lib.hid hp
  have HQ := Lib.hid hq
  clear ht hp hq
  go_enter Tryz.func161, Tryz.ntmps161
  go_upto_region 1 with (fail)
  refine wp_start4 ?_
  intro w0 B0 hT hP hQ hO
  have T0 := wd_four hT
  have P0 := wd_pl hP
  have Q0 := wd_pl hQ
  have O0 := wdz16 hO
  clear hT hP hQ hO
  obtain ⟨p0, p1, p2, p3, p4, p5, p6, p7, p8, p9, p10, p11, p12, p13, p14, p15, lp⟩ := wpl P0
  obtain ⟨q0, q1, q2, q3, q4, q5, q6, q7, q8, q9, q10, q11, q12, q13, q14, q15, lq⟩ := wpl Q0
  have HS1 := Lib.hid (fun w => sub_any p.y p.x w HP.out.y HP.out.x)
  have HS2 := Lib.hid (fun w => sub_any q.y q.x w HQ.out.y HQ.out.x)
  (refine wp_region_mildF 17 [false, false, false, false, false, false, false, false, false, false, false, false, false, false, false, false, true] (by kernel_rfl) (by kernel_rfl) ?_; simp only [List.take_succ_cons, List.take_zero, List.drop_succ_cons, List.drop_zero])
  (apply wpMildF_const; (focus (intro wm hm; have hrw := fun p h => Go.RowKit.Below.cell (p := p) hm h; go_simp; exact rfl)); simp only [List.cons_append, List.nil_append])
  (apply wpMildF_const; (focus (intro wm hm; have hrw := fun p h => Go.RowKit.Below.cell (p := p) hm h; go_simp; exact rfl)); simp only [List.cons_append, List.nil_append])
  (apply wpMildF_const; (focus (intro wm hm; have hrw := fun p h => Go.RowKit.Below.cell (p := p) hm h; go_simp; exact rfl)); simp only [List.cons_append, List.nil_append])
  (apply wpMildF_const; (focus (intro wm hm; have hrw := fun p h => Go.RowKit.Below.cell (p := p) hm h; go_simp; exact rfl)); simp only [List.cons_append, List.nil_append])
  (apply wpMildF_const; (focus (intro wm hm; have hrw := fun p h => Go.RowKit.Below.cell (p := p) hm h; go_simp; exact rfl)); simp only [List.cons_append, List.nil_append])
  (apply wpMildF_const; (focus (intro wm hm; have hrw := fun p h => Go.RowKit.Below.cell (p := p) hm h; go_simp; exact rfl)); simp only [List.cons_append, List.nil_append])
  (apply wpMildF_call; (focus (intro wm hm; have hrw := fun p h => Go.RowKit.Below.cell (p := p) hm h; go_simp; (exact Calls.mild (HS1.out _)))); (focus (first | exact Go.md_stays_eq _ | (intro v w w' h hb; first | exact Bsl.below h hb | exact Sizes.stays _ _ _ h hb | (obtain ⟨c, h1, h2, h3⟩ := h; exact ⟨c, h1, h2, Vo.heap_below h3 hb⟩) | fail))); simp only [List.cons_append, List.nil_append])
  (apply wpMildF_const; (focus (intro wm hm; have hrw := fun p h => Go.RowKit.Below.cell (p := p) hm h; go_simp; exact rfl)); simp only [List.cons_append, List.nil_append])
  (apply wpMildF_const; (focus (intro wm hm; have hrw := fun p h => Go.RowKit.Below.cell (p := p) hm h; go_simp; exact rfl)); simp only [List.cons_append, List.nil_append])
  (apply wpMildF_const; (focus (intro wm hm; have hrw := fun p h => Go.RowKit.Below.cell (p := p) hm h; go_simp; exact rfl)); simp only [List.cons_append, List.nil_append])
  (apply wpMildF_const; (focus (intro wm hm; have hrw := fun p h => Go.RowKit.Below.cell (p := p) hm h; go_simp; exact rfl)); simp only [List.cons_append, List.nil_append])
  (apply wpMildF_const; (focus (intro wm hm; have hrw := fun p h => Go.RowKit.Below.cell (p := p) hm h; go_simp; exact rfl)); simp only [List.cons_append, List.nil_append])
  (apply wpMildF_const; (focus (intro wm hm; have hrw := fun p h => Go.RowKit.Below.cell (p := p) hm h; go_simp; exact rfl)); simp only [List.cons_append, List.nil_append])
  (apply wpMildF_call; (focus (intro wm hm; have hrw := fun p h => Go.RowKit.Below.cell (p := p) hm h; go_simp; (exact Calls.mild (HS2.out _)))); (focus (first | exact Go.md_stays_eq _ | (intro v w w' h hb; first | exact Bsl.below h hb | exact Sizes.stays _ _ _ h hb | (obtain ⟨c, h1, h2, h3⟩ := h; exact ⟨c, h1, h2, Vo.heap_below h3 hb⟩) | fail))); simp only [List.cons_append, List.nil_append])
  (refine wpMildF_some (fun v w' => ∃ c, v = .slice (some ⟨c, 0, none⟩) 2 2 ∧ 0 ≤ c ∧ w'.heap[c]? = some (rowp (subN p.y p.x) (subN q.y q.x))) ?_ ?_ ?_; (focus (intro wm hm; have hrw := fun p h => Go.RowKit.Below.cell (p := p) hm h; go_simp; (exact ⟨(Below.refl _ _).alloc (Nat.le_refl _) _, by first | exact heap_alloc_new _ _ | exact (Array.getElem?_eq_some_iff.1 (heap_alloc_new _ _)).2 | exact ⟨Nat.zero_le _, heap_alloc_new _ _⟩⟩))); (focus (first | exact Go.md_stays_eq _ | (intro v w w' h hb; first | exact Bsl.below h hb | exact Sizes.stays _ _ _ h hb | (obtain ⟨c, h1, h2, h3⟩ := h; exact ⟨c, h1, h2, Vo.heap_below h3 hb⟩) | fail))); simp only [List.cons_append, List.nil_append])
  (apply wpMildF_call; (focus (intro wm hm; have hrw := fun p h => Go.RowKit.Below.cell (p := p) hm h; go_simp; (intro v c hv hc; subst hv; exact Calls.mild (mul2_any _ _ c 2 _ (nums2 hc) (subN_lt _ _) (subN_lt _ _))))); (focus (first | exact Go.md_stays_eq _ | (intro v w w' h hb; first | exact Bsl.below h hb | exact Sizes.stays _ _ _ h hb | (obtain ⟨c, h1, h2, h3⟩ := h; exact ⟨c, h1, h2, Vo.heap_below h3 hb⟩) | fail))); simp only [List.cons_append, List.nil_append])
  (apply wpMildF_new; (focus (intro wm hm; have hrw := fun p h => Go.RowKit.Below.cell (p := p) hm h; go_simp; first | exact rfl | exact ⟨rfl, rfl⟩)); simp only [List.cons_append, List.nil_append])
  (refine wpMildF_nil ?_; intro wm hm; simp only [mildAllF, MWord.blk_at, md_off, forall_eq, forall_exists_index, and_imp, and_true, true_implies, Act.put, List.setIfInBounds_toArray, List.set_cons_succ, List.set_cons_zero, forall_eq_apply_imp_iff])
  intro _ _ _ _ _ a a_l a_h
  clear p0 p1 p2 p3 p4 p5 p6 p7 p8 p9 p10 p11 p12 p13 p14 p15 q0 q1 q2 q3 q4 q5 q6 q7 q8 q9 q10 q11 q12 q13 q14 q15 lp lq HS1 HS2
  ((have Za := wd_zero a_h); (obtain ⟨a_0, a_1, a_2, a_3, a_s, a_f⟩ := wz4 Za); (go_upto_region 2 with (fail)); (have hb := (bel_all (n := mulL [subN p.y p.x, subN q.y q.x]) hm a_l)); (have B1 := B0.trans (hb.mono B0.size)); (have T1 := T0.below hb); (have P1 := P0.below hb); (have Q1 := Q0.below hb); (have O1 := O0.below hb); (have Ca := (Za.all (n := mulL [subN p.y p.x, subN q.y q.x]))); (clear hb hm Za a_0 a_1 a_2 a_3 a_s a_f a_h a_l); (generalize (World.setCell (World.setCell (World.setCell (World.setCell wm ⟨a, 0, none⟩ (w64 (lim (mulL [subN p.y p.x, subN q.y q.x]) 0))) ⟨a, 1, none⟩ (w64 (lim (mulL [subN p.y p.x, subN q.y q.x]) 1))) ⟨a, 2, none⟩ (w64 (lim (mulL [subN p.y p.x, subN q.y q.x]) 2))) ⟨a, 3, none⟩ (w64 (lim (mulL [subN p.y p.x, subN q.y q.x]) 3))) = w1 at *); (obtain ⟨na, hna⟩ : ∃ na, na = mulL [subN p.y p.x, subN q.y q.x] := ⟨_, rfl⟩); (have HEna := Lib.hid hna); (have HLna : Hid (na < 2 ^ 256) := Lib.hid (hna ▸ mulL_le _)); (rw [← hna] at Ca); (clear hna))
  obtain ⟨p0, p1, p2, p3, p4, p5, p6, p7, p8, p9, p10, p11, p12, p13, p14, p15, lp⟩ := wpl P1
  obtain ⟨q0, q1, q2, q3, q4, q5, q6, q7, q8, q9, q10, q11, q12, q13, q14, q15, lq⟩ := wpl Q1
  (refine wp_region_mildF 19 [false, false, false, false, false, false, false, false, false, false, false, false, false, false, false, false, false, false, true] (by kernel_rfl) (by kernel_rfl) ?_; simp only [List.take_succ_cons, List.take_zero, List.drop_succ_cons, List.drop_zero])
  (apply wpMildF_const; (focus (intro wm hm; have hrw := fun p h => Go.RowKit.Below.cell (p := p) hm h; go_simp; exact rfl)); simp only [List.cons_append, List.nil_append])
  (apply wpMildF_const; (focus (intro wm hm; have hrw := fun p h => Go.RowKit.Below.cell (p := p) hm h; go_simp; exact rfl)); simp only [List.cons_append, List.nil_append])
  (apply wpMildF_const; (focus (intro wm hm; have hrw := fun p h => Go.RowKit.Below.cell (p := p) hm h; go_simp; exact rfl)); simp only [List.cons_append, List.nil_append])
  (apply wpMildF_const; (focus (intro wm hm; have hrw := fun p h => Go.RowKit.Below.cell (p := p) hm h; go_simp; exact rfl)); simp only [List.cons_append, List.nil_append])
  (apply wpMildF_const; (focus (intro wm hm; have hrw := fun p h => Go.RowKit.Below.cell (p := p) hm h; go_simp; exact rfl)); simp only [List.cons_append, List.nil_append])
  (apply wpMildF_const; (focus (intro wm hm; have hrw := fun p h => Go.RowKit.Below.cell (p := p) hm h; go_simp; exact rfl)); simp only [List.cons_append, List.nil_append])
  (refine wpMildF_some (fun v w' => ∃ c, v = .slice (some ⟨c, 0, none⟩) 2 2 ∧ 0 ≤ c ∧ w'.heap[c]? = some (rowp p.y p.x)) ?_ ?_ ?_; (focus (intro wm hm; have hrw := fun p h => Go.RowKit.Below.cell (p := p) hm h; go_simp; (exact ⟨(Below.refl _ _).alloc (Nat.le_refl _) _, by first | exact heap_alloc_new _ _ | exact (Array.getElem?_eq_some_iff.1 (heap_alloc_new _ _)).2 | exact ⟨Nat.zero_le _, heap_alloc_new _ _⟩⟩))); (focus (first | exact Go.md_stays_eq _ | (intro v w w' h hb; first | exact Bsl.below h hb | exact Sizes.stays _ _ _ h hb | (obtain ⟨c, h1, h2, h3⟩ := h; exact ⟨c, h1, h2, Vo.heap_below h3 hb⟩) | fail))); simp only [List.cons_append, List.nil_append])
  (apply wpMildF_call; (focus (intro wm hm; have hrw := fun p h => Go.RowKit.Below.cell (p := p) hm h; go_simp; (intro v c hv hc; subst hv; exact Calls.mild (add2_any p.y p.x c 2 _ (nums2 hc) HP.out.y HP.out.x)))); (focus (first | exact Go.md_stays_eq _ | (intro v w w' h hb; first | exact Bsl.below h hb | exact Sizes.stays _ _ _ h hb | (obtain ⟨c, h1, h2, h3⟩ := h; exact ⟨c, h1, h2, Vo.heap_below h3 hb⟩) | fail))); simp only [List.cons_append, List.nil_append])
  (apply wpMildF_const; (focus (intro wm hm; have hrw := fun p h => Go.RowKit.Below.cell (p := p) hm h; go_simp; exact rfl)); simp only [List.cons_append, List.nil_append])
  (apply wpMildF_const; (focus (intro wm hm; have hrw := fun p h => Go.RowKit.Below.cell (p := p) hm h; go_simp; exact rfl)); simp only [List.cons_append, List.nil_append])
  (apply wpMildF_const; (focus (intro wm hm; have hrw := fun p h => Go.RowKit.Below.cell (p := p) hm h; go_simp; exact rfl)); simp only [List.cons_append, List.nil_append])
  (apply wpMildF_const; (focus (intro wm hm; have hrw := fun p h => Go.RowKit.Below.cell (p := p) hm h; go_simp; exact rfl)); simp only [List.cons_append, List.nil_append])
  (apply wpMildF_const; (focus (intro wm hm; have hrw := fun p h => Go.RowKit.Below.cell (p := p) hm h; go_simp; exact rfl)); simp only [List.cons_append, List.nil_append])
  (apply wpMildF_const; (focus (intro wm hm; have hrw := fun p h => Go.RowKit.Below.cell (p := p) hm h; go_simp; exact rfl)); simp only [List.cons_append, List.nil_append])
  (refine wpMildF_some (fun v w' => ∃ c, v = .slice (some ⟨c, 0, none⟩) 2 2 ∧ 0 ≤ c ∧ w'.heap[c]? = some (rowp q.y q.x)) ?_ ?_ ?_; (focus (intro wm hm; have hrw := fun p h => Go.RowKit.Below.cell (p := p) hm h; go_simp; (exact ⟨(Below.refl _ _).alloc (Nat.le_refl _) _, by first | exact heap_alloc_new _ _ | exact (Array.getElem?_eq_some_iff.1 (heap_alloc_new _ _)).2 | exact ⟨Nat.zero_le _, heap_alloc_new _ _⟩⟩))); (focus (first | exact Go.md_stays_eq _ | (intro v w w' h hb; first | exact Bsl.below h hb | exact Sizes.stays _ _ _ h hb | (obtain ⟨c, h1, h2, h3⟩ := h; exact ⟨c, h1, h2, Vo.heap_below h3 hb⟩) | fail))); simp only [List.cons_append, List.nil_append])
  (apply wpMildF_call; (focus (intro wm hm; have hrw := fun p h => Go.RowKit.Below.cell (p := p) hm h; go_simp; (intro v c hv hc; subst hv; exact Calls.mild (add2_any q.y q.x c 2 _ (nums2 hc) HQ.out.y HQ.out.x)))); (focus (first | exact Go.md_stays_eq _ | (intro v w w' h hb; first | exact Bsl.below h hb | exact Sizes.stays _ _ _ h hb | (obtain ⟨c, h1, h2, h3⟩ := h; exact ⟨c, h1, h2, Vo.heap_below h3 hb⟩) | fail))); simp only [List.cons_append, List.nil_append])
  (refine wpMildF_some (fun v w' => ∃ c, v = .slice (some ⟨c, 0, none⟩) 2 2 ∧ 0 ≤ c ∧ w'.heap[c]? = some (rowp (addL [p.y, p.x]) (addL [q.y, q.x]))) ?_ ?_ ?_; (focus (intro wm hm; have hrw := fun p h => Go.RowKit.Below.cell (p := p) hm h; go_simp; (exact ⟨(Below.refl _ _).alloc (Nat.le_refl _) _, by first | exact heap_alloc_new _ _ | exact (Array.getElem?_eq_some_iff.1 (heap_alloc_new _ _)).2 | exact ⟨Nat.zero_le _, heap_alloc_new _ _⟩⟩))); (focus (first | exact Go.md_stays_eq _ | (intro v w w' h hb; first | exact Bsl.below h hb | exact Sizes.stays _ _ _ h hb | (obtain ⟨c, h1, h2, h3⟩ := h; exact ⟨c, h1, h2, Vo.heap_below h3 hb⟩) | fail))); simp only [List.cons_append, List.nil_append])
  (apply wpMildF_call; (focus (intro wm hm; have hrw := fun p h => Go.RowKit.Below.cell (p := p) hm h; go_simp; (intro v c hv hc; subst hv; exact Calls.mild (mul2_any _ _ c 2 _ (nums2 hc) (addL_le _) (addL_le _))))); (focus (first | exact Go.md_stays_eq _ | (intro v w w' h hb; first | exact Bsl.below h hb | exact Sizes.stays _ _ _ h hb | (obtain ⟨c, h1, h2, h3⟩ := h; exact ⟨c, h1, h2, Vo.heap_below h3 hb⟩) | fail))); simp only [List.cons_append, List.nil_append])
  (apply wpMildF_new; (focus (intro wm hm; have hrw := fun p h => Go.RowKit.Below.cell (p := p) hm h; go_simp; first | exact rfl | exact ⟨rfl, rfl⟩)); simp only [List.cons_append, List.nil_append])
  (refine wpMildF_nil ?_; intro wm hm; simp only [mildAllF, MWord.blk_at, md_off, forall_eq, forall_exists_index, and_imp, and_true, true_implies, Act.put, List.setIfInBounds_toArray, List.set_cons_succ, List.set_cons_zero, forall_eq_apply_imp_iff])
  intro _ _ _ _ _ _ _ _ _ _ _ _ _ _ _ b b_l b_h
  clear p0 p1 p2 p3 p4 p5 p6 p7 p8 p9 p10 p11 p12 p13 p14 p15 q0 q1 q2 q3 q4 q5 q6 q7 q8 q9 q10 q11 q12 q13 q14 q15 lp lq
  ((have Zb := wd_zero b_h); (obtain ⟨b_0, b_1, b_2, b_3, b_s, b_f⟩ := wz4 Zb); (go_upto_region 3 with (fail)); (have hb := (bel_all (n := mulL [addL [p.y, p.x], addL [q.y, q.x]]) hm b_l)); (have B2 := B1.trans (hb.mono B1.size)); (have T2 := T1.below hb); (have P2 := P1.below hb); (have Q2 := Q1.below hb); (have O2 := O1.below hb); (have Ca2 := Ca.below hb); (have Cb := (Zb.all (n := mulL [addL [p.y, p.x], addL [q.y, q.x]]))); (clear hb hm Zb b_0 b_1 b_2 b_3 b_s b_f b_h b_l); (generalize (World.setCell (World.setCell (World.setCell (World.setCell wm ⟨b, 0, none⟩ (w64 (lim (mulL [addL [p.y, p.x], addL [q.y, q.x]]) 0))) ⟨b, 1, none⟩ (w64 (lim (mulL [addL [p.y, p.x], addL [q.y, q.x]]) 1))) ⟨b, 2, none⟩ (w64 (lim (mulL [addL [p.y, p.x], addL [q.y, q.x]]) 2))) ⟨b, 3, none⟩ (w64 (lim (mulL [addL [p.y, p.x], addL [q.y, q.x]]) 3))) = w2 at *); (obtain ⟨nb, hnb⟩ : ∃ nb, nb = mulL [addL [p.y, p.x], addL [q.y, q.x]] := ⟨_, rfl⟩); (have HEnb := Lib.hid hnb); (have HLnb : Hid (nb < 2 ^ 256) := Lib.hid (hnb ▸ mulL_le _)); (rw [← hnb] at Cb); (clear hnb))
  obtain ⟨p0, p1, p2, p3, p4, p5, p6, p7, p8, p9, p10, p11, p12, p13, p14, p15, lp⟩ := wpl P2
  obtain ⟨q0, q1, q2, q3, q4, q5, q6, q7, q8, q9, q10, q11, q12, q13, q14, q15, lq⟩ := wpl Q2
  obtain ⟨t0, t1, t2, t3, lt⟩ := wd4 T2
  (refine wp_region_mildS 9 [false, false, false, false, false, false, false, false, true] (by kernel_rfl) ?_; simp only [List.take_succ_cons, List.take_zero, List.drop_succ_cons, List.drop_zero])
  (apply wpMildF_const; (focus (intro wm hm; have hrw := fun p h => Go.RowKit.Below.cell (p := p) hm h; go_simp; exact rfl)); simp only [List.cons_append, List.nil_append])
  (apply wpMildF_const; (focus (intro wm hm; have hrw := fun p h => Go.RowKit.Below.cell (p := p) hm h; go_simp; exact rfl)); simp only [List.cons_append, List.nil_append])
  (apply wpMildF_const; (focus (intro wm hm; have hrw := fun p h => Go.RowKit.Below.cell (p := p) hm h; go_simp; exact rfl)); simp only [List.cons_append, List.nil_append])
  (apply wpMildF_const; (focus (intro wm hm; have hrw := fun p h => Go.RowKit.Below.cell (p := p) hm h; go_simp; exact rfl)); simp only [List.cons_append, List.nil_append])
  (apply wpMildF_const; (focus (intro wm hm; have hrw := fun p h => Go.RowKit.Below.cell (p := p) hm h; go_simp; exact rfl)); simp only [List.cons_append, List.nil_append])
  (apply wpMildF_const; (focus (intro wm hm; have hrw := fun p h => Go.RowKit.Below.cell (p := p) hm h; go_simp; exact rfl)); simp only [List.cons_append, List.nil_append])
  (refine wpMildF_some (fun v w' => ∃ c, v = .slice (some ⟨c, 0, none⟩) 3 3 ∧ 0 ≤ c ∧ w'.heap[c]? = some (rowt p.t tw q.t)) ?_ ?_ ?_; (focus (intro wm hm; have hrw := fun p h => Go.RowKit.Below.cell (p := p) hm h; go_simp; (exact ⟨(Below.refl _ _).alloc (Nat.le_refl _) _, by first | exact heap_alloc_new _ _ | exact (Array.getElem?_eq_some_iff.1 (heap_alloc_new _ _)).2 | exact ⟨Nat.zero_le _, heap_alloc_new _ _⟩⟩))); (focus (first | exact Go.md_stays_eq _ | (intro v w w' h hb; first | exact Bsl.below h hb | exact Sizes.stays _ _ _ h hb | (obtain ⟨c, h1, h2, h3⟩ := h; exact ⟨c, h1, h2, Vo.heap_below h3 hb⟩) | fail))); simp only [List.cons_append, List.nil_append])
  (apply wpMildF_call; (focus (intro wm hm; have hrw := fun p h => Go.RowKit.Below.cell (p := p) hm h; go_simp; (intro v c hv hc; subst hv; exact Calls.mild (mul3_any p.t tw q.t c 3 _ (nums3 hc) HP.out.t HT.out HQ.out.t)))); (focus (first | exact Go.md_stays_eq _ | (intro v w w' h hb; first | exact Bsl.below h hb | exact Sizes.stays _ _ _ h hb | (obtain ⟨c, h1, h2, h3⟩ := h; exact ⟨c, h1, h2, Vo.heap_below h3 hb⟩) | fail))); simp only [List.cons_append, List.nil_append])
  (apply wpMildF_new; (focus (intro wm hm; have hrw := fun p h => Go.RowKit.Below.cell (p := p) hm h; go_simp; first | exact rfl | exact ⟨rfl, rfl⟩)); simp only [List.cons_append, List.nil_append])
  (refine wpMildF_nil ?_; intro wm hm; simp only [mildAllF, MWord.blk_at, md_off, forall_eq, forall_exists_index, and_imp, and_true, true_implies, Act.put, List.setIfInBounds_toArray, List.set_cons_succ, List.set_cons_zero, forall_eq_apply_imp_iff])
  intro _ _ _ _ _ c c_l c_h
  clear p0 p1 p2 p3 p4 p5 p6 p7 p8 p9 p10 p11 p12 p13 p14 p15 q0 q1 q2 q3 q4 q5 q6 q7 q8 q9 q10 q11 q12 q13 q14 q15 t0 t1 t2 t3 lp lq lt
  ((have Zc := wd_zero c_h); (obtain ⟨c_0, c_1, c_2, c_3, c_s, c_f⟩ := wz4 Zc); (go_upto_region 4 with (fail)); (have hb := (bel_all (n := mulL [p.t, tw, q.t]) hm c_l)); (have B3 := B2.trans (hb.mono B2.size)); (have P3 := P2.below hb); (have Q3 := Q2.below hb); (have O3 := O2.below hb); (have Ca3 := Ca2.below hb); (have Cb3 := Cb.below hb); (have Cc := (Zc.all (n := mulL [p.t, tw, q.t]))); (clear hb hm Zc c_0 c_1 c_2 c_3 c_s c_f c_h c_l); (generalize (World.setCell (World.setCell (World.setCell (World.setCell wm ⟨c, 0, none⟩ (w64 (lim (mulL [p.t, tw, q.t]) 0))) ⟨c, 1, none⟩ (w64 (lim (mulL [p.t, tw, q.t]) 1))) ⟨c, 2, none⟩ (w64 (lim (mulL [p.t, tw, q.t]) 2))) ⟨c, 3, none⟩ (w64 (lim (mulL [p.t, tw, q.t]) 3))) = w3 at *); (obtain ⟨nc, hnc⟩ : ∃ nc, nc = mulL [p.t, tw, q.t] := ⟨_, rfl⟩); (have HEnc := Lib.hid hnc); (have HLnc : Hid (nc < 2 ^ 256) := Lib.hid (hnc ▸ mulL_le _)); (rw [← hnc] at Cc); (clear hnc))
  obtain ⟨p0, p1, p2, p3, p4, p5, p6, p7, p8, p9, p10, p11, p12, p13, p14, p15, lp⟩ := wpl P3
  obtain ⟨q0, q1, q2, q3, q4, q5, q6, q7, q8, q9, q10, q11, q12, q13, q14, q15, lq⟩ := wpl Q3
  (refine wp_region_mildS 8 [false, false, false, false, false, false, false, true] (by kernel_rfl) ?_; simp only [List.take_succ_cons, List.take_zero, List.drop_succ_cons, List.drop_zero])
  (apply wpMildF_const; (focus (intro wm hm; have hrw := fun p h => Go.RowKit.Below.cell (p := p) hm h; go_simp; exact rfl)); simp only [List.cons_append, List.nil_append])
  (apply wpMildF_const; (focus (intro wm hm; have hrw := fun p h => Go.RowKit.Below.cell (p := p) hm h; go_simp; exact rfl)); simp only [List.cons_append, List.nil_append])
  (apply wpMildF_const; (focus (intro wm hm; have hrw := fun p h => Go.RowKit.Below.cell (p := p) hm h; go_simp; exact rfl)); simp only [List.cons_append, List.nil_append])
  (apply wpMildF_const; (focus (intro wm hm; have hrw := fun p h => Go.RowKit.Below.cell (p := p) hm h; go_simp; exact rfl)); simp only [List.cons_append, List.nil_append])
  (apply wpMildF_const; (focus (intro wm hm; have hrw := fun p h => Go.RowKit.Below.cell (p := p) hm h; go_simp; exact rfl)); simp only [List.cons_append, List.nil_append])
  (refine wpMildF_some (fun v w' => ∃ c, v = .slice (some ⟨c, 0, none⟩) 3 3 ∧ 0 ≤ c ∧ w'.heap[c]? = some (Obj.cells #[w64 (lim p.z 0), w64 (lim p.z 1), w64 (lim p.z 2), w64 (lim p.z 3), w64 (lim q.z 0), w64 (lim q.z 1), w64 (lim q.z 2), w64 (lim q.z 3), .int .u64 2, .int .u64 0, .int .u64 0, .int .u64 0] 150)) ?_ ?_ ?_; (focus (intro wm hm; have hrw := fun p h => Go.RowKit.Below.cell (p := p) hm h; go_simp; (exact ⟨(Below.refl _ _).alloc (Nat.le_refl _) _, by first | exact heap_alloc_new _ _ | exact (Array.getElem?_eq_some_iff.1 (heap_alloc_new _ _)).2 | exact ⟨Nat.zero_le _, heap_alloc_new _ _⟩⟩))); (focus (first | exact Go.md_stays_eq _ | (intro v w w' h hb; first | exact Bsl.below h hb | exact Sizes.stays _ _ _ h hb | (obtain ⟨c, h1, h2, h3⟩ := h; exact ⟨c, h1, h2, Vo.heap_below h3 hb⟩) | fail))); simp only [List.cons_append, List.nil_append])
  (apply wpMildF_call; (focus (intro wm hm; have hrw := fun p h => Go.RowKit.Below.cell (p := p) hm h; go_simp; (intro v c hv hc; subst hv; exact Calls.mild (mul3_any p.z q.z 2 c 3 _ (nums3 hc) HP.out.z HQ.out.z (by decide))))); (focus (first | exact Go.md_stays_eq _ | (intro v w w' h hb; first | exact Bsl.below h hb | exact Sizes.stays _ _ _ h hb | (obtain ⟨c, h1, h2, h3⟩ := h; exact ⟨c, h1, h2, Vo.heap_below h3 hb⟩) | fail))); simp only [List.cons_append, List.nil_append])
  (apply wpMildF_new; (focus (intro wm hm; have hrw := fun p h => Go.RowKit.Below.cell (p := p) hm h; go_simp; first | exact rfl | exact ⟨rfl, rfl⟩)); simp only [List.cons_append, List.nil_append])
  (refine wpMildF_nil ?_; intro wm hm; simp only [mildAllF, MWord.blk_at, md_off, forall_eq, forall_exists_index, and_imp, and_true, true_implies, Act.put, List.setIfInBounds_toArray, List.set_cons_succ, List.set_cons_zero, forall_eq_apply_imp_iff])
  intro _ _ _ _ _ d d_l d_h
  clear p0 p1 p2 p3 p4 p5 p6 p7 p8 p9 p10 p11 p12 p13 p14 p15 q0 q1 q2 q3 q4 q5 q6 q7 q8 q9 q10 q11 q12 q13 q14 q15 lp lq
  ((have Zd := wd_zero d_h); (obtain ⟨d_0, d_1, d_2, d_3, d_s, d_f⟩ := wz4 Zd); (go_upto_region 5 with (fail)); (have hb := (bel_all (n := mulL [p.z, q.z, 2]) hm d_l)); (have B4 := B3.trans (hb.mono B3.size)); (have O4 := O3.below hb); (have Ca4 := Ca3.below hb); (have Cb4 := Cb3.below hb); (have Cc4 := Cc.below hb); (have Cd := (Zd.all (n := mulL [p.z, q.z, 2]))); (clear hb hm Zd d_0 d_1 d_2 d_3 d_s d_f d_h d_l); (generalize (World.setCell (World.setCell (World.setCell (World.setCell wm ⟨d, 0, none⟩ (w64 (lim (mulL [p.z, q.z, 2]) 0))) ⟨d, 1, none⟩ (w64 (lim (mulL [p.z, q.z, 2]) 1))) ⟨d, 2, none⟩ (w64 (lim (mulL [p.z, q.z, 2]) 2))) ⟨d, 3, none⟩ (w64 (lim (mulL [p.z, q.z, 2]) 3))) = w4 at *); (obtain ⟨nd, hnd⟩ : ∃ nd, nd = mulL [p.z, q.z, 2] := ⟨_, rfl⟩); (have HEnd := Lib.hid hnd); (have HLnd : Hid (nd < 2 ^ 256) := Lib.hid (hnd ▸ mulL_le _)); (rw [← hnd] at Cd); (clear hnd))
  obtain ⟨a0, a1, a2, a3, la⟩ := wd4 Ca4
  obtain ⟨b0, b1, b2, b3, lb⟩ := wd4 Cb4
  obtain ⟨c0, c1, c2, c3, lc⟩ := wd4 Cc4
  obtain ⟨d0, d1, d2, d3, ld⟩ := wd4 Cd
  have HS1 := Lib.hid (fun w => sub_any nb na w HLnb.out HLna.out)
  have HS2 := Lib.hid (fun w => sub_any nd nc w HLnd.out HLnc.out)
  (refine wp_region_mildF 18 [false, false, false, false, false, false, false, false, false, false, false, false, false, false, true, true, true, true] (by kernel_rfl) (by kernel_rfl) ?_; simp only [List.take_succ_cons, List.take_zero, List.drop_succ_cons, List.drop_zero])
  (apply wpMildF_const; (focus (intro wm hm; have hrw := fun p h => Go.RowKit.Below.cell (p := p) hm h; go_simp; exact rfl)); simp only [List.cons_append, List.nil_append])
  (apply wpMildF_const; (focus (intro wm hm; have hrw := fun p h => Go.RowKit.Below.cell (p := p) hm h; go_simp; exact rfl)); simp only [List.cons_append, List.nil_append])
  (apply wpMildF_call; (focus (intro wm hm; have hrw := fun p h => Go.RowKit.Below.cell (p := p) hm h; go_simp; (exact Calls.mild (HS1.out _)))); (focus (first | exact Go.md_stays_eq _ | (intro v w w' h hb; first | exact Bsl.below h hb | exact Sizes.stays _ _ _ h hb | (obtain ⟨c, h1, h2, h3⟩ := h; exact ⟨c, h1, h2, Vo.heap_below h3 hb⟩) | fail))); simp only [List.cons_append, List.nil_append])
  (apply wpMildF_const; (focus (intro wm hm; have hrw := fun p h => Go.RowKit.Below.cell (p := p) hm h; go_simp; exact rfl)); simp only [List.cons_append, List.nil_append])
  (apply wpMildF_const; (focus (intro wm hm; have hrw := fun p h => Go.RowKit.Below.cell (p := p) hm h; go_simp; exact rfl)); simp only [List.cons_append, List.nil_append])
  (apply wpMildF_call; (focus (intro wm hm; have hrw := fun p h => Go.RowKit.Below.cell (p := p) hm h; go_simp; (exact Calls.mild (HS2.out _)))); (focus (first | exact Go.md_stays_eq _ | (intro v w w' h hb; first | exact Bsl.below h hb | exact Sizes.stays _ _ _ h hb | (obtain ⟨c, h1, h2, h3⟩ := h; exact ⟨c, h1, h2, Vo.heap_below h3 hb⟩) | fail))); simp only [List.cons_append, List.nil_append])
  (apply wpMildF_const; (focus (intro wm hm; have hrw := fun p h => Go.RowKit.Below.cell (p := p) hm h; go_simp; exact rfl)); simp only [List.cons_append, List.nil_append])
  (apply wpMildF_const; (focus (intro wm hm; have hrw := fun p h => Go.RowKit.Below.cell (p := p) hm h; go_simp; exact rfl)); simp only [List.cons_append, List.nil_append])
  (refine wpMildF_some (fun v w' => ∃ c, v = .slice (some ⟨c, 0, none⟩) 2 2 ∧ 0 ≤ c ∧ w'.heap[c]? = some (rowp nd nc)) ?_ ?_ ?_; (focus (intro wm hm; have hrw := fun p h => Go.RowKit.Below.cell (p := p) hm h; go_simp; (exact ⟨(Below.refl _ _).alloc (Nat.le_refl _) _, by first | exact heap_alloc_new _ _ | exact (Array.getElem?_eq_some_iff.1 (heap_alloc_new _ _)).2 | exact ⟨Nat.zero_le _, heap_alloc_new _ _⟩⟩))); (focus (first | exact Go.md_stays_eq _ | (intro v w w' h hb; first | exact Bsl.below h hb | exact Sizes.stays _ _ _ h hb | (obtain ⟨c, h1, h2, h3⟩ := h; exact ⟨c, h1, h2, Vo.heap_below h3 hb⟩) | fail))); simp only [List.cons_append, List.nil_append])
  (apply wpMildF_call; (focus (intro wm hm; have hrw := fun p h => Go.RowKit.Below.cell (p := p) hm h; go_simp; (intro v c hv hc; subst hv; exact Calls.mild (add2_any nd nc c 2 _ (nums2 hc) HLnd.out HLnc.out)))); (focus (first | exact Go.md_stays_eq _ | (intro v w w' h hb; first | exact Bsl.below h hb | exact Sizes.stays _ _ _ h hb | (obtain ⟨c, h1, h2, h3⟩ := h; exact ⟨c, h1, h2, Vo.heap_below h3 hb⟩) | fail))); simp only [List.cons_append, List.nil_append])
  (apply wpMildF_const; (focus (intro wm hm; have hrw := fun p h => Go.RowKit.Below.cell (p := p) hm h; go_simp; exact rfl)); simp only [List.cons_append, List.nil_append])
  (apply wpMildF_const; (focus (intro wm hm; have hrw := fun p h => Go.RowKit.Below.cell (p := p) hm h; go_simp; exact rfl)); simp only [List.cons_append, List.nil_append])
  (refine wpMildF_some (fun v w' => ∃ c, v = .slice (some ⟨c, 0, none⟩) 2 2 ∧ 0 ≤ c ∧ w'.heap[c]? = some (rowp nb na)) ?_ ?_ ?_; (focus (intro wm hm; have hrw := fun p h => Go.RowKit.Below.cell (p := p) hm h; go_simp; (exact ⟨(Below.refl _ _).alloc (Nat.le_refl _) _, by first | exact heap_alloc_new _ _ | exact (Array.getElem?_eq_some_iff.1 (heap_alloc_new _ _)).2 | exact ⟨Nat.zero_le _, heap_alloc_new _ _⟩⟩))); (focus (first | exact Go.md_stays_eq _ | (intro v w w' h hb; first | exact Bsl.below h hb | exact Sizes.stays _ _ _ h hb | (obtain ⟨c, h1, h2, h3⟩ := h; exact ⟨c, h1, h2, Vo.heap_below h3 hb⟩) | fail))); simp only [List.cons_append, List.nil_append])
  (apply wpMildF_call; (focus (intro wm hm; have hrw := fun p h => Go.RowKit.Below.cell (p := p) hm h; go_simp; (intro v c hv hc; subst hv; exact Calls.mild (add2_any nb na c 2 _ (nums2 hc) HLnb.out HLna.out)))); (focus (first | exact Go.md_stays_eq _ | (intro v w w' h hb; first | exact Bsl.below h hb | exact Sizes.stays _ _ _ h hb | (obtain ⟨c, h1, h2, h3⟩ := h; exact ⟨c, h1, h2, Vo.heap_below h3 hb⟩) | fail))); simp only [List.cons_append, List.nil_append])
  (apply wpMildF_new; (focus (intro wm hm; have hrw := fun p h => Go.RowKit.Below.cell (p := p) hm h; go_simp; first | exact rfl | exact ⟨rfl, rfl⟩)); simp only [List.cons_append, List.nil_append])
  (apply wpMildF_new; (focus (intro wm hm; have hrw := fun p h => Go.RowKit.Below.cell (p := p) hm h; go_simp; first | exact rfl | exact ⟨rfl, rfl⟩)); simp only [List.cons_append, List.nil_append])
  (apply wpMildF_new; (focus (intro wm hm; have hrw := fun p h => Go.RowKit.Below.cell (p := p) hm h; go_simp; first | exact rfl | exact ⟨rfl, rfl⟩)); simp only [List.cons_append, List.nil_append])
  (apply wpMildF_new; (focus (intro wm hm; have hrw := fun p h => Go.RowKit.Below.cell (p := p) hm h; go_simp; first | exact rfl | exact ⟨rfl, rfl⟩)); simp only [List.cons_append, List.nil_append])
  (refine wpMildF_nil ?_; intro wm hm; simp only [mildAllF, MWord.blk_at, md_off, forall_eq, forall_exists_index, and_imp, and_true, true_implies, Act.put, List.setIfInBounds_toArray, List.set_cons_succ, List.set_cons_zero, forall_eq_apply_imp_iff])
  intro _ _ _ _ _ _ _ _ _ _ e e_l e_h f f_l f_h hfe g g_l g_h hg1 hg2 h h_l h_h hh1 hh2 hh3
  clear a0 a1 a2 a3 b0 b1 b2 b3 c0 c1 c2 c3 d0 d1 d2 d3 la lb lc ld HS1 HS2
  clear Ca Cb Cc Cd Ca2 Ca3 Ca4 Cb3 Cb4 Cc4
  have re := hfe.symm
  have rg1 := hg1.symm
  have rg2 := hg2.symm
  have rh1 := hh1.symm
  have rh2 := hh2.symm
  have rh3 := hh3.symm
  ((have Ze := wd_zero e_h); (obtain ⟨e_0, e_1, e_2, e_3, e_s, e_f⟩ := wz4 Ze); (have Zf := wd_zero f_h); (obtain ⟨f_0, f_1, f_2, f_3, f_s, f_f⟩ := wz4 Zf); (have Zg := wd_zero g_h); (obtain ⟨g_0, g_1, g_2, g_3, g_s, g_f⟩ := wz4 Zg); (have Zh := wd_zero h_h); (obtain ⟨h_0, h_1, h_2, h_3, h_s, h_f⟩ := wz4 Zh); (go_upto_region 6 with (fail)); (have hb := (bel_all (n := addL [nb, na]) (bel_all (n := addL [nd, nc]) (bel_all (n := subN nd nc) (bel_all (n := subN nb na) hm e_l) f_l) g_l) h_l)); (have B5 := B4.trans (hb.mono B4.size)); (have O5 := O4.below hb); (have Ce := ((((Ze.all (n := subN nb na)).far4 (c := f) (m := subN nd nc) (by omega)).far4 (c := g) (m := addL [nd, nc]) (by omega)).far4 (c := h) (m := addL [nb, na]) (by omega))); (have Cf := ((((Zf.far4 (c := e) (m := subN nb na) (by omega)).all (n := subN nd nc)).far4 (c := g) (m := addL [nd, nc]) (by omega)).far4 (c := h) (m := addL [nb, na]) (by omega))); (have Cg := ((((Zg.far4 (c := e) (m := subN nb na) (by omega)).far4 (c := f) (m := subN nd nc) (by omega)).all (n := addL [nd, nc])).far4 (c := h) (m := addL [nb, na]) (by omega))); (have Ch := ((((Zh.far4 (c := e) (m := subN nb na) (by omega)).far4 (c := f) (m := subN nd nc) (by omega)).far4 (c := g) (m := addL [nd, nc]) (by omega)).all (n := addL [nb, na]))); (clear hb hm Ze e_0 e_1 e_2 e_3 e_s e_f e_h e_l Zf f_0 f_1 f_2 f_3 f_s f_f f_h f_l Zg g_0 g_1 g_2 g_3 g_s g_f g_h g_l Zh h_0 h_1 h_2 h_3 h_s h_f h_h h_l); (generalize (World.setCell (World.setCell (World.setCell (World.setCell (World.setCell (World.setCell (World.setCell (World.setCell (World.setCell (World.setCell (World.setCell (World.setCell (World.setCell (World.setCell (World.setCell (World.setCell wm ⟨e, 0, none⟩ (w64 (lim (subN nb na) 0))) ⟨e, 1, none⟩ (w64 (lim (subN nb na) 1))) ⟨e, 2, none⟩ (w64 (lim (subN nb na) 2))) ⟨e, 3, none⟩ (w64 (lim (subN nb na) 3))) ⟨f, 0, none⟩ (w64 (lim (subN nd nc) 0))) ⟨f, 1, none⟩ (w64 (lim (subN nd nc) 1))) ⟨f, 2, none⟩ (w64 (lim (subN nd nc) 2))) ⟨f, 3, none⟩ (w64 (lim (subN nd nc) 3))) ⟨g, 0, none⟩ (w64 (lim (addL [nd, nc]) 0))) ⟨g, 1, none⟩ (w64 (lim (addL [nd, nc]) 1))) ⟨g, 2, none⟩ (w64 (lim (addL [nd, nc]) 2))) ⟨g, 3, none⟩ (w64 (lim (addL [nd, nc]) 3))) ⟨h, 0, none⟩ (w64 (lim (addL [nb, na]) 0))) ⟨h, 1, none⟩ (w64 (lim (addL [nb, na]) 1))) ⟨h, 2, none⟩ (w64 (lim (addL [nb, na]) 2))) ⟨h, 3, none⟩ (w64 (lim (addL [nb, na]) 3))) = w5 at *); (obtain ⟨ne, hne⟩ : ∃ ne, ne = subN nb na := ⟨_, rfl⟩); (have HEne := Lib.hid hne); (have HLne : Hid (ne < 2 ^ 256) := Lib.hid (hne ▸ subN_lt _ _)); (rw [← hne] at Ce); (clear hne); (obtain ⟨nf, hnf⟩ : ∃ nf, nf = subN nd nc := ⟨_, rfl⟩); (have HEnf := Lib.hid hnf); (have HLnf : Hid (nf < 2 ^ 256) := Lib.hid (hnf ▸ subN_lt _ _)); (rw [← hnf] at Cf); (clear hnf); (obtain ⟨ng, hng⟩ : ∃ ng, ng = addL [nd, nc] := ⟨_, rfl⟩); (have HEng := Lib.hid hng); (have HLng : Hid (ng < 2 ^ 256) := Lib.hid (hng ▸ addL_le _)); (rw [← hng] at Cg); (clear hng); (obtain ⟨nh, hnh⟩ : ∃ nh, nh = addL [nb, na] := ⟨_, rfl⟩); (have HEnh := Lib.hid hnh); (have HLnh : Hid (nh < 2 ^ 256) := Lib.hid (hnh ▸ addL_le _)); (rw [← hnh] at Ch); (clear hnh))
  clear hfe hg1 hg2 hh1 hh2 hh3 re rg1 rg2 rh1 rh2 rh3
  obtain ⟨e0, e1, e2, e3, le⟩ := wd4 Ce
  obtain ⟨f0, f1, f2, f3, lf⟩ := wd4 Cf
  obtain ⟨g0, g1, g2, g3, lg⟩ := wd4 Cg
  obtain ⟨h0, h1, h2, h3, lh⟩ := wd4 Ch
  (refine wp_region_mildF 18 [false, false, false, false, false, false, false, false, false, false, false, false, false, false, false, false, false, false] (by kernel_rfl) (by kernel_rfl) ?_; simp only [List.take_succ_cons, List.take_zero, List.drop_succ_cons, List.drop_zero])
  (apply wpMildF_const; (focus (intro wm hm; have hrw := fun p h => Go.RowKit.Below.cell (p := p) hm h; go_simp; exact rfl)); simp only [List.cons_append, List.nil_append])
  (apply wpMildF_const; (focus (intro wm hm; have hrw := fun p h => Go.RowKit.Below.cell (p := p) hm h; go_simp; exact rfl)); simp only [List.cons_append, List.nil_append])
  (refine wpMildF_some (fun v w' => ∃ c, v = .slice (some ⟨c, 0, none⟩) 2 2 ∧ 0 ≤ c ∧ w'.heap[c]? = some (rowp ne nf)) ?_ ?_ ?_; (focus (intro wm hm; have hrw := fun p h => Go.RowKit.Below.cell (p := p) hm h; go_simp; (exact ⟨(Below.refl _ _).alloc (Nat.le_refl _) _, by first | exact heap_alloc_new _ _ | exact (Array.getElem?_eq_some_iff.1 (heap_alloc_new _ _)).2 | exact ⟨Nat.zero_le _, heap_alloc_new _ _⟩⟩))); (focus (first | exact Go.md_stays_eq _ | (intro v w w' h hb; first | exact Bsl.below h hb | exact Sizes.stays _ _ _ h hb | (obtain ⟨c, h1, h2, h3⟩ := h; exact ⟨c, h1, h2, Vo.heap_below h3 hb⟩) | fail))); simp only [List.cons_append, List.nil_append])
  (apply wpMildF_call; (focus (intro wm hm; have hrw := fun p h => Go.RowKit.Below.cell (p := p) hm h; go_simp; (intro v c hv hc; subst hv; exact Calls.mild (mul2_any ne nf c 2 _ (nums2 hc) HLne.out HLnf.out)))); (focus (first | exact Go.md_stays_eq _ | (intro v w w' h hb; first | exact Bsl.below h hb | exact Sizes.stays _ _ _ h hb | (obtain ⟨c, h1, h2, h3⟩ := h; exact ⟨c, h1, h2, Vo.heap_below h3 hb⟩) | fail))); simp only [List.cons_append, List.nil_append])
  (apply wpMildF_const; (focus (intro wm hm; have hrw := fun p h => Go.RowKit.Below.cell (p := p) hm h; go_simp; exact rfl)); simp only [List.cons_append, List.nil_append])
  (apply wpMildF_const; (focus (intro wm hm; have hrw := fun p h => Go.RowKit.Below.cell (p := p) hm h; go_simp; exact rfl)); simp only [List.cons_append, List.nil_append])
  (refine wpMildF_some (fun v w' => ∃ c, v = .slice (some ⟨c, 0, none⟩) 2 2 ∧ 0 ≤ c ∧ w'.heap[c]? = some (rowp ng nh)) ?_ ?_ ?_; (focus (intro wm hm; have hrw := fun p h => Go.RowKit.Below.cell (p := p) hm h; go_simp; (exact ⟨(Below.refl _ _).alloc (Nat.le_refl _) _, by first | exact heap_alloc_new _ _ | exact (Array.getElem?_eq_some_iff.1 (heap_alloc_new _ _)).2 | exact ⟨Nat.zero_le _, heap_alloc_new _ _⟩⟩))); (focus (first | exact Go.md_stays_eq _ | (intro v w w' h hb; first | exact Bsl.below h hb | exact Sizes.stays _ _ _ h hb | (obtain ⟨c, h1, h2, h3⟩ := h; exact ⟨c, h1, h2, Vo.heap_below h3 hb⟩) | fail))); simp only [List.cons_append, List.nil_append])
  (apply wpMildF_call; (focus (intro wm hm; have hrw := fun p h => Go.RowKit.Below.cell (p := p) hm h; go_simp; (intro v c hv hc; subst hv; exact Calls.mild (mul2_any ng nh c 2 _ (nums2 hc) HLng.out HLnh.out)))); (focus (first | exact Go.md_stays_eq _ | (intro v w w' h hb; first | exact Bsl.below h hb | exact Sizes.stays _ _ _ h hb | (obtain ⟨c, h1, h2, h3⟩ := h; exact ⟨c, h1, h2, Vo.heap_below h3 hb⟩) | fail))); simp only [List.cons_append, List.nil_append])
  (apply wpMildF_const; (focus (intro wm hm; have hrw := fun p h => Go.RowKit.Below.cell (p := p) hm h; go_simp; exact rfl)); simp only [List.cons_append, List.nil_append])
  (apply wpMildF_const; (focus (intro wm hm; have hrw := fun p h => Go.RowKit.Below.cell (p := p) hm h; go_simp; exact rfl)); simp only [List.cons_append, List.nil_append])
  (apply wpMildF_const; (focus (intro wm hm; have hrw := fun p h => Go.RowKit.Below.cell (p := p) hm h; go_simp; exact rfl)); simp only [List.cons_append, List.nil_append])
  (refine wpMildF_some (fun v w' => ∃ c, v = .slice (some ⟨c, 0, none⟩) 2 2 ∧ 0 ≤ c ∧ w'.heap[c]? = some (rowp nf ng)) ?_ ?_ ?_; (focus (intro wm hm; have hrw := fun p h => Go.RowKit.Below.cell (p := p) hm h; go_simp; (exact ⟨(Below.refl _ _).alloc (Nat.le_refl _) _, by first | exact heap_alloc_new _ _ | exact (Array.getElem?_eq_some_iff.1 (heap_alloc_new _ _)).2 | exact ⟨Nat.zero_le _, heap_alloc_new _ _⟩⟩))); (focus (first | exact Go.md_stays_eq _ | (intro v w w' h hb; first | exact Bsl.below h hb | exact Sizes.stays _ _ _ h hb | (obtain ⟨c, h1, h2, h3⟩ := h; exact ⟨c, h1, h2, Vo.heap_below h3 hb⟩) | fail))); simp only [List.cons_append, List.nil_append])
  (apply wpMildF_call; (focus (intro wm hm; have hrw := fun p h => Go.RowKit.Below.cell (p := p) hm h; go_simp; (intro v c hv hc; subst hv; exact Calls.mild (mul2_any nf ng c 2 _ (nums2 hc) HLnf.out HLng.out)))); (focus (first | exact Go.md_stays_eq _ | (intro v w w' h hb; first | exact Bsl.below h hb | exact Sizes.stays _ _ _ h hb | (obtain ⟨c, h1, h2, h3⟩ := h; exact ⟨c, h1, h2, Vo.heap_below h3 hb⟩) | fail))); simp only [List.cons_append, List.nil_append])
  (apply wpMildF_const; (focus (intro wm hm; have hrw := fun p h => Go.RowKit.Below.cell (p := p) hm h; go_simp; exact rfl)); simp only [List.cons_append, List.nil_append])
  (apply wpMildF_const; (focus (intro wm hm; have hrw := fun p h => Go.RowKit.Below.cell (p := p) hm h; go_simp; exact rfl)); simp only [List.cons_append, List.nil_append])
  (refine wpMildF_some (fun v w' => ∃ c, v = .slice (some ⟨c, 0, none⟩) 2 2 ∧ 0 ≤ c ∧ w'.heap[c]? = some (rowp ne nh)) ?_ ?_ ?_; (focus (intro wm hm; have hrw := fun p h => Go.RowKit.Below.cell (p := p) hm h; go_simp; (exact ⟨(Below.refl _ _).alloc (Nat.le_refl _) _, by first | exact heap_alloc_new _ _ | exact (Array.getElem?_eq_some_iff.1 (heap_alloc_new _ _)).2 | exact ⟨Nat.zero_le _, heap_alloc_new _ _⟩⟩))); (focus (first | exact Go.md_stays_eq _ | (intro v w w' h hb; first | exact Bsl.below h hb | exact Sizes.stays _ _ _ h hb | (obtain ⟨c, h1, h2, h3⟩ := h; exact ⟨c, h1, h2, Vo.heap_below h3 hb⟩) | fail))); simp only [List.cons_append, List.nil_append])
  (apply wpMildF_call; (focus (intro wm hm; have hrw := fun p h => Go.RowKit.Below.cell (p := p) hm h; go_simp; (intro v c hv hc; subst hv; exact Calls.mild (mul2_any ne nh c 2 _ (nums2 hc) HLne.out HLnh.out)))); (focus (first | exact Go.md_stays_eq _ | (intro v w w' h hb; first | exact Bsl.below h hb | exact Sizes.stays _ _ _ h hb | (obtain ⟨c, h1, h2, h3⟩ := h; exact ⟨c, h1, h2, Vo.heap_below h3 hb⟩) | fail))); simp only [List.cons_append, List.nil_append])
  (apply wpMildF_const; (focus (intro wm hm; have hrw := fun p h => Go.RowKit.Below.cell (p := p) hm h; go_simp; exact rfl)); simp only [List.cons_append, List.nil_append])
  (refine wpMildF_nil ?_; intro wm hm; simp only [mildAllF, MWord.blk_at, md_off, forall_eq, forall_exists_index, and_imp, and_true, true_implies, Act.put, List.setIfInBounds_toArray, List.set_cons_succ, List.set_cons_zero, forall_eq_apply_imp_iff])
  intro _ _ _ _ _ _ _ _ _ _ _ _ _ _ _ _ _ _ _ _
  clear e0 e1 e2 e3 f0 f1 f2 f3 g0 g1 g2 g3 h0 h1 h2 h3 le lf lg lh
  have O6 := O5.below hm
  have B6 := B5.trans (hm.mono B5.size)
  obtain ⟨o0, o1, o2, o3, o4, o5, o6, o7, o8, o9, o10, o11, o12, o13, o14, o15, lo, fo⟩ := wz16 O6
  have hzs := B6.size
  clear hm
  go_wp2
  refine bodyPost_ret (by simp [results, Tryz.results161, go_sem, o0, o1, o2, o3, o4, o5, o6, o7, o8, o9, o10, o11, o12, o13, o14, o15]; try rfl) rfl ?_
  exact ⟨by simp only [sumP, sumA, sumB, sumC, sumD, ← HEna.out, ← HEnb.out, ← HEnc.out, ← HEnd.out, ← HEne.out, ← HEnf.out, ← HEng.out, ← HEnh.out], by go_grown⟩
end Go.Proofs.YtlgghcffmnofdaaGreatDoor.Nu
