/-
  The walks of curve: other.
-/
import Derived.Test.YtlgghcffmnofdaaGreatDoorCurveAQ
import Derived.Test.YtlgghcffmnofdaaGreatDoorMildAll

namespace Go.Proofs.YtlgghcffmnofdaaGreatDoor.Nu
open Go Go.RowKit Go.Proofs.YtlgghcffmnofdaaGreatDoor.Cn
set_option linter.unusedSimpArgs false
set_option maxRecDepth 100000

abbrev rowp (x y : Nat) : Obj := .cells #[w64 (lim x 0), w64 (lim x 1), w64 (lim x 2), w64 (lim x 3), w64 (lim y 0), w64 (lim y 1), w64 (lim y 2), w64 (lim y 3)] 150
theorem mul2_any (x y b cap : Nat) (w : World) (hn : Nums w b [x, y]) (hx : x < 2 ^ 256) (hy : y < 2 ^ 256) :
    Calls Tryz.prog 156 #[.slice (some ⟨b, 0, none⟩) 2 cap] w fun e w' => e = .returned (numV (mulL [x, y])) ∧ Below w.heap.size w w' :=
  mulL_any [x, y] b cap w hn (by
    intro z hz
    simp only [List.mem_cons, List.not_mem_nil, or_false] at hz
    rcases hz with rfl | rfl
    · exact hx
    · exact hy) (by simp)
theorem add2_any (x y b cap : Nat) (w : World) (hn : Nums w b [x, y]) (hx : x < 2 ^ 256) (hy : y < 2 ^ 256) :
    Calls Tryz.prog 196 #[.slice (some ⟨b, 0, none⟩) 2 cap] w fun e w' => e = .returned (numV (addL [x, y])) ∧ Below w.heap.size w w' :=
  addL_any [x, y] b cap w hn (by
    intro z hz
    simp only [List.mem_cons, List.not_mem_nil, or_false] at hz
    rcases hz with rfl | rfl
    · exact hx
    · exact hy) (by simp)

def sqN (y : Nat) : Nat := mulL [y, y]
def upN (s : Nat) : Nat := subN s 1
noncomputable def dnN (s : Nat) : Nat := addL [mulL [facN, s], 1]
noncomputable def xxN (y : Nat) : Nat := mulL [upN (sqN y), invN (dnN (sqN y))]

theorem wd4 {w : World} {b n : Nat} (h : Wd w b 4 (lim n)) : w.cell? ⟨b, 0, none⟩ = some (w64 (lim n 0)) ∧ w.cell? ⟨b, 1, none⟩ = some (w64 (lim n 1)) ∧ w.cell? ⟨b, 2, none⟩ = some (w64 (lim n 2)) ∧ w.cell? ⟨b, 3, none⟩ = some (w64 (lim n 3)) ∧ b < w.heap.size :=
  ⟨h.at_ 0 (by omega), h.at_ 1 (by omega), h.at_ 2 (by omega), h.at_ 3 (by omega), h.lt⟩
theorem Wd.far4 {w : World} {b n c m : Nat} {f : Nat → Nat} (h : Wd w b n f) (hbc : b ≠ c) : Wd (World.setCell (World.setCell (World.setCell (World.setCell w ⟨c, 0, none⟩ (w64 (lim (m) 0))) ⟨c, 1, none⟩ (w64 (lim (m) 1))) ⟨c, 2, none⟩ (w64 (lim (m) 2))) ⟨c, 3, none⟩ (w64 (lim (m) 3))) b n f :=
  (((h.far _ hbc).far _ hbc).far _ hbc).far _ hbc

theorem wz4 {w : World} {b : Nat} (h : Wd w b 4 (fun _ => 0)) : w.cell? ⟨b, 0, none⟩ = some (w64 0) ∧ w.cell? ⟨b, 1, none⟩ = some (w64 0) ∧ w.cell? ⟨b, 2, none⟩ = some (w64 0) ∧ w.cell? ⟨b, 3, none⟩ = some (w64 0) ∧ b < w.heap.size ∧ ∀ i, w.frozen? ⟨b, i, none⟩ = false :=
  ⟨h.at_ 0 (by omega), h.at_ 1 (by omega), h.at_ 2 (by omega), h.at_ 3 (by omega), h.lt, h.thaw⟩

/-- What Root gives: a number, and whether it is one. -/
def rootX (a : Nat) : Nat := if mulN (root2 a) (root2 a) = a then rootE (root2 a) else 0
def rootB (a : Nat) : Bool := decide (mulN (root2 a) (root2 a) = a)
theorem rootV_eq (a : Nat) : rootV a = .tuple #[numV (rootX a), .bool (rootB a)] := by
  unfold rootV rootX rootB
  split
  · rename_i h; rw [decide_eq_true h]
  · rename_i h; rw [decide_eq_false h]
theorem rootX_lt (a : Nat) : rootX a < 2 ^ 256 := by
  unfold rootX
  split
  · unfold rootE; split; exact subN_lt _ _; exact root2_lt _
  · decide
noncomputable def otherX (y : Nat) : Nat := rootX (xxN y % pp)
noncomputable def otherB (y : Nat) : Bool := rootB (xxN y % pp)
theorem otherX_lt (y : Nat) : otherX y < 2 ^ 256 := rootX_lt _

set_option maxHeartbeats 8000000 in
theorem other_any (y : Nat) (w : World) (hy : y < 2 ^ 256) :
    Calls Tryz.prog 151 #[numV y] w fun e w' => e = .returned (.tuple #[numV (otherX y), .bool (otherB y)]) ∧ Below w.heap.size w w' := by
  have HY := Lib.hid hy
  clear hy
  go_enter Tryz.func151, Tryz.ntmps151
  go_upto_region 1 with (fail)
  have B0 := ((Below.refl w.heap.size w).alloc (Nat.le_refl _) (row4 y)).alloc (by simp) zero4
  have A0 := (wd_row (heap_alloc_new w (row4 y))).below ((Below.refl _ _).alloc (Nat.le_refl _) zero4)
  have O0 := wd_zero (heap_alloc_new (w.alloc (row4 y)) zero4)
  rw [show (w.alloc (row4 y)).heap.size = w.heap.size + 1 by simp] at O0
  generalize (w.alloc (row4 y)).alloc zero4 = w0 at *
  obtain ⟨a0, a1, a2, a3, la⟩ := wd4 A0
  (refine wp_region_mildS 5 [false, false, false, false, true] (by kernel_rfl) ?_; simp only [List.take_succ_cons, List.take_zero, List.drop_succ_cons, List.drop_zero])
  (apply wpMildF_const; (focus (intro wm hm; have hrw := fun p h => Go.RowKit.Below.cell (p := p) hm h; go_simp; exact rfl)); simp only [List.cons_append, List.nil_append])
  (apply wpMildF_const; (focus (intro wm hm; have hrw := fun p h => Go.RowKit.Below.cell (p := p) hm h; go_simp; exact rfl)); simp only [List.cons_append, List.nil_append])
  (refine wpMildF_some (fun v w' => ∃ c, v = .slice (some ⟨c, 0, none⟩) 2 2 ∧ 0 ≤ c ∧ w'.heap[c]? = some (rowp y y)) ?_ ?_ ?_; (focus (intro wm hm; have hrw := fun p h => Go.RowKit.Below.cell (p := p) hm h; go_simp; (exact ⟨(Below.refl _ _).alloc (Nat.le_refl _) _, by first | exact heap_alloc_new _ _ | exact (Array.getElem?_eq_some_iff.1 (heap_alloc_new _ _)).2 | exact ⟨Nat.zero_le _, heap_alloc_new _ _⟩⟩))); (focus (first | exact Go.md_stays_eq _ | (intro v w w' h hb; first | exact Bsl.below h hb | exact Sizes.stays _ _ _ h hb | (obtain ⟨c, h1, h2, h3⟩ := h; exact ⟨c, h1, h2, Vo.heap_below h3 hb⟩) | fail))); simp only [List.cons_append, List.nil_append])
  (apply wpMildF_call; (focus (intro wm hm; have hrw := fun p h => Go.RowKit.Below.cell (p := p) hm h; go_simp; (intro v c hv hc; subst hv; exact Calls.mild (mul2_any y y c 2 _ (nums2 hc) HY.out HY.out)))); (focus (first | exact Go.md_stays_eq _ | (intro v w w' h hb; first | exact Bsl.below h hb | exact Sizes.stays _ _ _ h hb | (obtain ⟨c, h1, h2, h3⟩ := h; exact ⟨c, h1, h2, Vo.heap_below h3 hb⟩) | fail))); simp only [List.cons_append, List.nil_append])
  (apply wpMildF_new; (focus (intro wm hm; have hrw := fun p h => Go.RowKit.Below.cell (p := p) hm h; go_simp; first | exact rfl | exact ⟨rfl, rfl⟩)); simp only [List.cons_append, List.nil_append])
  (refine wpMildF_nil ?_; intro wm hm; simp only [mildAllF, MWord.blk_at, md_off, forall_eq, forall_exists_index, and_imp, and_true, true_implies, Act.put, List.setIfInBounds_toArray, List.set_cons_succ, List.set_cons_zero, forall_eq_apply_imp_iff])
  intro _ _ _ _ _ s s_l s_h
  clear a0 a1 a2 a3 la
  ((have Zs := wd_zero s_h); (obtain ⟨s_0, s_1, s_2, s_3, s_s, s_f⟩ := wz4 Zs); (go_upto_region 2 with (fail)); (have hb := (bel_all (n := mulL [y, y]) hm s_l)); (have B1 := B0.trans (hb.mono B0.size)); (have A1 := A0.below hb); (have O1 := O0.below hb); (have Cs := (Zs.all (n := mulL [y, y]))); (clear hb hm Zs s_0 s_1 s_2 s_3 s_s s_f s_h s_l); (generalize (World.setCell (World.setCell (World.setCell (World.setCell wm ⟨s, 0, none⟩ (w64 (lim (mulL [y, y]) 0))) ⟨s, 1, none⟩ (w64 (lim (mulL [y, y]) 1))) ⟨s, 2, none⟩ (w64 (lim (mulL [y, y]) 2))) ⟨s, 3, none⟩ (w64 (lim (mulL [y, y]) 3))) = w1 at *); (obtain ⟨n, hn⟩ : ∃ n, n = mulL [y, y] := ⟨_, rfl⟩); (have HEn := Lib.hid hn); (have HLn : Hid (n < 2 ^ 256) := Lib.hid (hn ▸ mulL_le _)); (rw [← hn] at Cs); (clear hn))
  have HU := Lib.hid (fun w => sub_any n 1 w HLn.out (by decide))
  obtain ⟨n0, n1, n2, n3, la⟩ := wd4 Cs
  (refine wp_region_mildF 12 [false, false, false, false, false, false, false, false, false, false, true, true] (by kernel_rfl) (by kernel_rfl) ?_; simp only [List.take_succ_cons, List.take_zero, List.drop_succ_cons, List.drop_zero])
  (apply wpMildF_const; (focus (intro wm hm; have hrw := fun p h => Go.RowKit.Below.cell (p := p) hm h; go_simp; exact rfl)); simp only [List.cons_append, List.nil_append])
  (apply wpMildF_call; (focus (intro wm hm; have hrw := fun p h => Go.RowKit.Below.cell (p := p) hm h; go_simp; (exact Calls.mild (one_any _)))); (focus (first | exact Go.md_stays_eq _ | (intro v w w' h hb; first | exact Bsl.below h hb | exact Sizes.stays _ _ _ h hb | (obtain ⟨c, h1, h2, h3⟩ := h; exact ⟨c, h1, h2, Vo.heap_below h3 hb⟩) | fail))); simp only [List.cons_append, List.nil_append])
  (apply wpMildF_call; (focus (intro wm hm; have hrw := fun p h => Go.RowKit.Below.cell (p := p) hm h; go_simp; (exact Calls.mild (HU.out _)))); (focus (first | exact Go.md_stays_eq _ | (intro v w w' h hb; first | exact Bsl.below h hb | exact Sizes.stays _ _ _ h hb | (obtain ⟨c, h1, h2, h3⟩ := h; exact ⟨c, h1, h2, Vo.heap_below h3 hb⟩) | fail))); simp only [List.cons_append, List.nil_append])
  (apply wpMildF_call; (focus (intro wm hm; have hrw := fun p h => Go.RowKit.Below.cell (p := p) hm h; go_simp; (exact Calls.mild (factor_any _)))); (focus (first | exact Go.md_stays_eq _ | (intro v w w' h hb; first | exact Bsl.below h hb | exact Sizes.stays _ _ _ h hb | (obtain ⟨c, h1, h2, h3⟩ := h; exact ⟨c, h1, h2, Vo.heap_below h3 hb⟩) | fail))); simp only [List.cons_append, List.nil_append])
  (apply wpMildF_const; (focus (intro wm hm; have hrw := fun p h => Go.RowKit.Below.cell (p := p) hm h; go_simp; exact rfl)); simp only [List.cons_append, List.nil_append])
  (refine wpMildF_some (fun v w' => ∃ c, v = .slice (some ⟨c, 0, none⟩) 2 2 ∧ 0 ≤ c ∧ w'.heap[c]? = some (rowp facN n)) ?_ ?_ ?_; (focus (intro wm hm; have hrw := fun p h => Go.RowKit.Below.cell (p := p) hm h; go_simp; (exact ⟨(Below.refl _ _).alloc (Nat.le_refl _) _, by first | exact heap_alloc_new _ _ | exact (Array.getElem?_eq_some_iff.1 (heap_alloc_new _ _)).2 | exact ⟨Nat.zero_le _, heap_alloc_new _ _⟩⟩))); (focus (first | exact Go.md_stays_eq _ | (intro v w w' h hb; first | exact Bsl.below h hb | exact Sizes.stays _ _ _ h hb | (obtain ⟨c, h1, h2, h3⟩ := h; exact ⟨c, h1, h2, Vo.heap_below h3 hb⟩) | fail))); simp only [List.cons_append, List.nil_append])
  (apply wpMildF_call; (focus (intro wm hm; have hrw := fun p h => Go.RowKit.Below.cell (p := p) hm h; go_simp; (intro v c hv hc; subst hv; exact Calls.mild (mul2_any facN n c 2 _ (nums2 hc) facN_lt HLn.out)))); (focus (first | exact Go.md_stays_eq _ | (intro v w w' h hb; first | exact Bsl.below h hb | exact Sizes.stays _ _ _ h hb | (obtain ⟨c, h1, h2, h3⟩ := h; exact ⟨c, h1, h2, Vo.heap_below h3 hb⟩) | fail))); simp only [List.cons_append, List.nil_append])
  (apply wpMildF_call; (focus (intro wm hm; have hrw := fun p h => Go.RowKit.Below.cell (p := p) hm h; go_simp; (exact Calls.mild (one_any _)))); (focus (first | exact Go.md_stays_eq _ | (intro v w w' h hb; first | exact Bsl.below h hb | exact Sizes.stays _ _ _ h hb | (obtain ⟨c, h1, h2, h3⟩ := h; exact ⟨c, h1, h2, Vo.heap_below h3 hb⟩) | fail))); simp only [List.cons_append, List.nil_append])
  (refine wpMildF_some (fun v w' => ∃ c, v = .slice (some ⟨c, 0, none⟩) 2 2 ∧ 0 ≤ c ∧ w'.heap[c]? = some (rowp (mulL [facN, n]) 1)) ?_ ?_ ?_; (focus (intro wm hm; have hrw := fun p h => Go.RowKit.Below.cell (p := p) hm h; go_simp; (exact ⟨(Below.refl _ _).alloc (Nat.le_refl _) _, by first | exact heap_alloc_new _ _ | exact (Array.getElem?_eq_some_iff.1 (heap_alloc_new _ _)).2 | exact ⟨Nat.zero_le _, heap_alloc_new _ _⟩⟩))); (focus (first | exact Go.md_stays_eq _ | (intro v w w' h hb; first | exact Bsl.below h hb | exact Sizes.stays _ _ _ h hb | (obtain ⟨c, h1, h2, h3⟩ := h; exact ⟨c, h1, h2, Vo.heap_below h3 hb⟩) | fail))); simp only [List.cons_append, List.nil_append])
  (apply wpMildF_call; (focus (intro wm hm; have hrw := fun p h => Go.RowKit.Below.cell (p := p) hm h; go_simp; (intro v c hv hc; subst hv; exact Calls.mild (add2_any (mulL [facN, n]) 1 c 2 _ (nums2 hc) (mulL_le _) (by decide))))); (focus (first | exact Go.md_stays_eq _ | (intro v w w' h hb; first | exact Bsl.below h hb | exact Sizes.stays _ _ _ h hb | (obtain ⟨c, h1, h2, h3⟩ := h; exact ⟨c, h1, h2, Vo.heap_below h3 hb⟩) | fail))); simp only [List.cons_append, List.nil_append])
  (apply wpMildF_new; (focus (intro wm hm; have hrw := fun p h => Go.RowKit.Below.cell (p := p) hm h; go_simp; first | exact rfl | exact ⟨rfl, rfl⟩)); simp only [List.cons_append, List.nil_append])
  (apply wpMildF_new; (focus (intro wm hm; have hrw := fun p h => Go.RowKit.Below.cell (p := p) hm h; go_simp; first | exact rfl | exact ⟨rfl, rfl⟩)); simp only [List.cons_append, List.nil_append])
  (refine wpMildF_nil ?_; intro wm hm; simp only [mildAllF, MWord.blk_at, md_off, forall_eq, forall_exists_index, and_imp, and_true, true_implies, Act.put, List.setIfInBounds_toArray, List.set_cons_succ, List.set_cons_zero, forall_eq_apply_imp_iff])
  intro _ _ _ _ _ _ _ _ _ _ u u_l u_h d d_l d_h hne
  have hne2 : d ≠ u := fun h => hne h.symm
  clear n0 n1 n2 n3 la
  ((have Zu := wd_zero u_h); (obtain ⟨u_0, u_1, u_2, u_3, u_s, u_f⟩ := wz4 Zu); (have Zd := wd_zero d_h); (obtain ⟨d_0, d_1, d_2, d_3, d_s, d_f⟩ := wz4 Zd); (go_upto_region 3 with (fail)); (have hb := (bel_all (n := addL [mulL [facN, n], 1]) (bel_all (n := subN n 1) hm u_l) d_l)); (have B2 := B1.trans (hb.mono B1.size)); (have O2 := O1.below hb); (have Cu := ((Zu.all (n := subN n 1)).far4 (c := d) (m := addL [mulL [facN, n], 1]) (by omega))); (have Cd := ((Zd.far4 (c := u) (m := subN n 1) (by omega)).all (n := addL [mulL [facN, n], 1]))); (clear hb hm Zu u_0 u_1 u_2 u_3 u_s u_f u_h u_l Zd d_0 d_1 d_2 d_3 d_s d_f d_h d_l); (generalize (World.setCell (World.setCell (World.setCell (World.setCell (World.setCell (World.setCell (World.setCell (World.setCell wm ⟨u, 0, none⟩ (w64 (lim (subN n 1) 0))) ⟨u, 1, none⟩ (w64 (lim (subN n 1) 1))) ⟨u, 2, none⟩ (w64 (lim (subN n 1) 2))) ⟨u, 3, none⟩ (w64 (lim (subN n 1) 3))) ⟨d, 0, none⟩ (w64 (lim (addL [mulL [facN, n], 1]) 0))) ⟨d, 1, none⟩ (w64 (lim (addL [mulL [facN, n], 1]) 1))) ⟨d, 2, none⟩ (w64 (lim (addL [mulL [facN, n], 1]) 2))) ⟨d, 3, none⟩ (w64 (lim (addL [mulL [facN, n], 1]) 3))) = w2 at *); (obtain ⟨up, hup⟩ : ∃ up, up = subN n 1 := ⟨_, rfl⟩); (have HEup := Lib.hid hup); (have HLup : Hid (up < 2 ^ 256) := Lib.hid (hup ▸ subN_lt _ _)); (rw [← hup] at Cu); (clear hup); (obtain ⟨dn, hdn⟩ : ∃ dn, dn = addL [mulL [facN, n], 1] := ⟨_, rfl⟩); (have HEdn := Lib.hid hdn); (have HLdn : Hid (dn < 2 ^ 256) := Lib.hid (hdn ▸ Nat.lt_trans (addL_lt _) (by decide))); (rw [← hdn] at Cd); (clear hdn))
  clear hne hne2
  obtain ⟨u0, u1, u2, u3, lu⟩ := wd4 Cu
  obtain ⟨d0, d1, d2, d3, ld⟩ := wd4 Cd
  obtain ⟨o0, o1, o2, o3, lo, fo⟩ := wz4 O2
  have HI := Lib.hid (fun w => inverse_any dn w HLdn.out)
  have HR : Hid (∀ w, Calls Tryz.prog 198 #[numV (mulL [up, invN dn])] w fun e w' => e = .returned (.tuple #[numV (otherX y), .bool (otherB y)]) ∧ Below w.heap.size w w') := Lib.hid (fun w => by
    have := root_any (mulL [up, invN dn]) w (mulL_le _)
    rw [rootV_eq] at this
    unfold otherX otherB xxN upN dnN sqN
    rw [← HEn.out, ← HEup.out, ← HEdn.out]
    exact this)
  (refine wp_region_mildF 8 [false, false, false, false, false, false, false, false] (by kernel_rfl) (by kernel_rfl) ?_; simp only [List.take_succ_cons, List.take_zero, List.drop_succ_cons, List.drop_zero])
  (apply wpMildF_const; (focus (intro wm hm; have hrw := fun p h => Go.RowKit.Below.cell (p := p) hm h; go_simp; exact rfl)); simp only [List.cons_append, List.nil_append])
  (apply wpMildF_const; (focus (intro wm hm; have hrw := fun p h => Go.RowKit.Below.cell (p := p) hm h; go_simp; exact rfl)); simp only [List.cons_append, List.nil_append])
  (apply wpMildF_call; (focus (intro wm hm; have hrw := fun p h => Go.RowKit.Below.cell (p := p) hm h; go_simp; (exact Calls.mild (HI.out _)))); (focus (first | exact Go.md_stays_eq _ | (intro v w w' h hb; first | exact Bsl.below h hb | exact Sizes.stays _ _ _ h hb | (obtain ⟨c, h1, h2, h3⟩ := h; exact ⟨c, h1, h2, Vo.heap_below h3 hb⟩) | fail))); simp only [List.cons_append, List.nil_append])
  (refine wpMildF_some (fun v w' => ∃ c, v = .slice (some ⟨c, 0, none⟩) 2 2 ∧ 0 ≤ c ∧ w'.heap[c]? = some (rowp up (invN dn))) ?_ ?_ ?_; (focus (intro wm hm; have hrw := fun p h => Go.RowKit.Below.cell (p := p) hm h; go_simp; (exact ⟨(Below.refl _ _).alloc (Nat.le_refl _) _, by first | exact heap_alloc_new _ _ | exact (Array.getElem?_eq_some_iff.1 (heap_alloc_new _ _)).2 | exact ⟨Nat.zero_le _, heap_alloc_new _ _⟩⟩))); (focus (first | exact Go.md_stays_eq _ | (intro v w w' h hb; first | exact Bsl.below h hb | exact Sizes.stays _ _ _ h hb | (obtain ⟨c, h1, h2, h3⟩ := h; exact ⟨c, h1, h2, Vo.heap_below h3 hb⟩) | fail))); simp only [List.cons_append, List.nil_append])
  (apply wpMildF_call; (focus (intro wm hm; have hrw := fun p h => Go.RowKit.Below.cell (p := p) hm h; go_simp; (intro v c hv hc; subst hv; exact Calls.mild (mul2_any up (invN dn) c 2 _ (nums2 hc) HLup.out (invN_lt _))))); (focus (first | exact Go.md_stays_eq _ | (intro v w w' h hb; first | exact Bsl.below h hb | exact Sizes.stays _ _ _ h hb | (obtain ⟨c, h1, h2, h3⟩ := h; exact ⟨c, h1, h2, Vo.heap_below h3 hb⟩) | fail))); simp only [List.cons_append, List.nil_append])
  (apply wpMildF_call; (focus (intro wm hm; have hrw := fun p h => Go.RowKit.Below.cell (p := p) hm h; go_simp; (exact Calls.mild (HR.out _)))); (focus (first | exact Go.md_stays_eq _ | (intro v w w' h hb; first | exact Bsl.below h hb | exact Sizes.stays _ _ _ h hb | (obtain ⟨c, h1, h2, h3⟩ := h; exact ⟨c, h1, h2, Vo.heap_below h3 hb⟩) | fail))); simp only [List.cons_append, List.nil_append])
  (apply wpMildF_const; (focus (intro wm hm; have hrw := fun p h => Go.RowKit.Below.cell (p := p) hm h; go_simp; exact rfl)); simp only [List.cons_append, List.nil_append])
  (apply wpMildF_const; (focus (intro wm hm; have hrw := fun p h => Go.RowKit.Below.cell (p := p) hm h; go_simp; exact rfl)); simp only [List.cons_append, List.nil_append])
  (refine wpMildF_nil ?_; intro wm hm; simp only [mildAllF, MWord.blk_at, md_off, forall_eq, forall_exists_index, and_imp, and_true, true_implies, Act.put, List.setIfInBounds_toArray, List.set_cons_succ, List.set_cons_zero, forall_eq_apply_imp_iff])
  intro _ _ _ _ _
  have O3 := O2.below hm
  have B3 := B2.trans (hm.mono B2.size)
  clear u0 u1 u2 u3 lu d0 d1 d2 d3 ld o0 o1 o2 o3 lo fo
  obtain ⟨o0, o1, o2, o3, lo, fo⟩ := wz4 O3
  have hzs := B3.size
  clear hm
  go_wp2
  refine bodyPost_ret (by simp [results, Tryz.results151, go_sem, o0, o1, o2, o3]; try rfl) rfl ?_
  exact ⟨rfl, by go_grown⟩
end Go.Proofs.YtlgghcffmnofdaaGreatDoor.Nu
