/-
  The walks of curve: places and points as rows of words; open, Naught, Base, far, near.
-/
import Derived.Test.YtlgghcffmnofdaaGreatDoorCurveBQ

namespace Go.Proofs.YtlgghcffmnofdaaGreatDoor.Nu
open Go Go.RowKit Go.Proofs.YtlgghcffmnofdaaGreatDoor.Cn
set_option linter.unusedSimpArgs false
set_option maxRecDepth 100000

/-- A place: four numbers. -/
structure Pl where
  x : Nat
  y : Nat
  z : Nat
  t : Nat
structure Pl.Ok (p : Pl) : Prop where
  x : p.x < 2 ^ 256
  y : p.y < 2 ^ 256
  z : p.z < 2 ^ 256
  t : p.t < 2 ^ 256
abbrev pointV (x y : Nat) : Value := .agg #[w64 (lim x 0), w64 (lim x 1), w64 (lim x 2), w64 (lim x 3), w64 (lim y 0), w64 (lim y 1), w64 (lim y 2), w64 (lim y 3)]
abbrev placeV (p : Pl) : Value := .agg #[w64 (lim p.x 0), w64 (lim p.x 1), w64 (lim p.x 2), w64 (lim p.x 3), w64 (lim p.y 0), w64 (lim p.y 1), w64 (lim p.y 2), w64 (lim p.y 3), w64 (lim p.z 0), w64 (lim p.z 1), w64 (lim p.z 2), w64 (lim p.z 3), w64 (lim p.t 0), w64 (lim p.t 1), w64 (lim p.t 2), w64 (lim p.t 3)]
def plf (p : Pl) : Nat → Nat
  | 0 => lim p.x 0
  | 1 => lim p.x 1
  | 2 => lim p.x 2
  | 3 => lim p.x 3
  | 4 => lim p.y 0
  | 5 => lim p.y 1
  | 6 => lim p.y 2
  | 7 => lim p.y 3
  | 8 => lim p.z 0
  | 9 => lim p.z 1
  | 10 => lim p.z 2
  | 11 => lim p.z 3
  | 12 => lim p.t 0
  | 13 => lim p.t 1
  | 14 => lim p.t 2
  | 15 => lim p.t 3
  | _ => 0
def pof (x y : Nat) : Nat → Nat
  | 0 => lim x 0
  | 1 => lim x 1
  | 2 => lim x 2
  | 3 => lim x 3
  | 4 => lim y 0
  | 5 => lim y 1
  | 6 => lim y 2
  | 7 => lim y 3
  | _ => 0
theorem all16 {cs : Array Value} {f : Nat → Nat} (h : cs[0]? = some (w64 (f 0)) ∧ cs[1]? = some (w64 (f 1)) ∧ cs[2]? = some (w64 (f 2)) ∧ cs[3]? = some (w64 (f 3)) ∧ cs[4]? = some (w64 (f 4)) ∧ cs[5]? = some (w64 (f 5)) ∧ cs[6]? = some (w64 (f 6)) ∧ cs[7]? = some (w64 (f 7)) ∧ cs[8]? = some (w64 (f 8)) ∧ cs[9]? = some (w64 (f 9)) ∧ cs[10]? = some (w64 (f 10)) ∧ cs[11]? = some (w64 (f 11)) ∧ cs[12]? = some (w64 (f 12)) ∧ cs[13]? = some (w64 (f 13)) ∧ cs[14]? = some (w64 (f 14)) ∧ cs[15]? = some (w64 (f 15))) : ∀ i, i < 16 → cs[i]? = some (w64 (f i)) := by
  obtain ⟨h0, h1, h2, h3, h4, h5, h6, h7, h8, h9, h10, h11, h12, h13, h14, h15⟩ := h
  intro i hi
  obtain rfl | rfl | rfl | rfl | rfl | rfl | rfl | rfl | rfl | rfl | rfl | rfl | rfl | rfl | rfl | rfl : i = 0 ∨ i = 1 ∨ i = 2 ∨ i = 3 ∨ i = 4 ∨ i = 5 ∨ i = 6 ∨ i = 7 ∨ i = 8 ∨ i = 9 ∨ i = 10 ∨ i = 11 ∨ i = 12 ∨ i = 13 ∨ i = 14 ∨ i = 15 := by omega
  all_goals assumption
theorem all8 {cs : Array Value} {f : Nat → Nat} (h : cs[0]? = some (w64 (f 0)) ∧ cs[1]? = some (w64 (f 1)) ∧ cs[2]? = some (w64 (f 2)) ∧ cs[3]? = some (w64 (f 3)) ∧ cs[4]? = some (w64 (f 4)) ∧ cs[5]? = some (w64 (f 5)) ∧ cs[6]? = some (w64 (f 6)) ∧ cs[7]? = some (w64 (f 7))) : ∀ i, i < 8 → cs[i]? = some (w64 (f i)) := by
  obtain ⟨h0, h1, h2, h3, h4, h5, h6, h7⟩ := h
  intro i hi
  obtain rfl | rfl | rfl | rfl | rfl | rfl | rfl | rfl : i = 0 ∨ i = 1 ∨ i = 2 ∨ i = 3 ∨ i = 4 ∨ i = 5 ∨ i = 6 ∨ i = 7 := by omega
  all_goals assumption
theorem wd_pl {w : World} {b : Nat} {p : Pl} {t : TypeId} (h : w.heap[b]? = some (.cells #[w64 (lim p.x 0), w64 (lim p.x 1), w64 (lim p.x 2), w64 (lim p.x 3), w64 (lim p.y 0), w64 (lim p.y 1), w64 (lim p.y 2), w64 (lim p.y 3), w64 (lim p.z 0), w64 (lim p.z 1), w64 (lim p.z 2), w64 (lim p.z 3), w64 (lim p.t 0), w64 (lim p.t 1), w64 (lim p.t 2), w64 (lim p.t 3)] t)) : Wd w b 16 (plf p) :=
  Wd.row h (all16 ⟨rfl, rfl, rfl, rfl, rfl, rfl, rfl, rfl, rfl, rfl, rfl, rfl, rfl, rfl, rfl, rfl⟩)
theorem wd_po {w : World} {b x y : Nat} {t : TypeId} (h : w.heap[b]? = some (.cells #[w64 (lim x 0), w64 (lim x 1), w64 (lim x 2), w64 (lim x 3), w64 (lim y 0), w64 (lim y 1), w64 (lim y 2), w64 (lim y 3)] t)) : Wd w b 8 (pof x y) :=
  Wd.row h (all8 ⟨rfl, rfl, rfl, rfl, rfl, rfl, rfl, rfl⟩)
theorem wdz16 {w : World} {b : Nat} {t : TypeId} (h : w.heap[b]? = some (.cells #[.int .u64 0, .int .u64 0, .int .u64 0, .int .u64 0, .int .u64 0, .int .u64 0, .int .u64 0, .int .u64 0, .int .u64 0, .int .u64 0, .int .u64 0, .int .u64 0, .int .u64 0, .int .u64 0, .int .u64 0, .int .u64 0] t)) : Wd w b 16 (fun _ => 0) :=
  Wd.row h (all16 ⟨rfl, rfl, rfl, rfl, rfl, rfl, rfl, rfl, rfl, rfl, rfl, rfl, rfl, rfl, rfl, rfl⟩)
theorem wdz8 {w : World} {b : Nat} {t : TypeId} (h : w.heap[b]? = some (.cells #[.int .u64 0, .int .u64 0, .int .u64 0, .int .u64 0, .int .u64 0, .int .u64 0, .int .u64 0, .int .u64 0] t)) : Wd w b 8 (fun _ => 0) :=
  Wd.row h (all8 ⟨rfl, rfl, rfl, rfl, rfl, rfl, rfl, rfl⟩)
theorem wdz4 {w : World} {b : Nat} {t : TypeId} (h : w.heap[b]? = some (.cells #[.int .u64 0, .int .u64 0, .int .u64 0, .int .u64 0] t)) : Wd w b 4 (fun _ => 0) := Wd.row h (by
  intro i hi
  obtain rfl | rfl | rfl | rfl : i = 0 ∨ i = 1 ∨ i = 2 ∨ i = 3 := by omega
  all_goals rfl)
theorem wd_four {w : World} {b a : Nat} {t : TypeId} (h : w.heap[b]? = some (.cells #[w64 (lim a 0), w64 (lim a 1), w64 (lim a 2), w64 (lim a 3)] t)) : Wd w b 4 (lim a) := Wd.row h (four _ rfl rfl rfl rfl)
theorem start2 (w : World) (x y : Obj) : Below w.heap.size w ((w.alloc x).alloc y) ∧ ((w.alloc x).alloc y).heap[w.heap.size]? = some x ∧ ((w.alloc x).alloc y).heap[w.heap.size + 1]? = some y :=
  ⟨((Below.refl _ _).alloc (Nat.le_refl _) _).alloc (by simp) _, Vo.heap_below (heap_alloc_new w x) ((Below.refl _ _).alloc (Nat.le_refl _) _), by
    have := heap_alloc_new (w.alloc x) y
    rwa [World.size_alloc] at this⟩
theorem start4 (w : World) (x y z u : Obj) : Below w.heap.size w ((((w.alloc x).alloc y).alloc z).alloc u) ∧ ((((w.alloc x).alloc y).alloc z).alloc u).heap[w.heap.size]? = some x ∧ ((((w.alloc x).alloc y).alloc z).alloc u).heap[w.heap.size + 1]? = some y ∧
    ((((w.alloc x).alloc y).alloc z).alloc u).heap[w.heap.size + 2]? = some z ∧ ((((w.alloc x).alloc y).alloc z).alloc u).heap[w.heap.size + 3]? = some u := by
  obtain ⟨a1, a2, a3⟩ := start2 w x y
  obtain ⟨b1, b2, b3⟩ := start2 ((w.alloc x).alloc y) z u
  rw [World.size_alloc, World.size_alloc] at b2 b3
  exact ⟨a1.trans (b1.mono a1.size), Vo.heap_below a2 b1, Vo.heap_below a3 b1, b2, b3⟩
section
variable {c : Code} {P : Program} {Q : Exit → Act → World → Prop} {act : Act} {w : World} {x y z u : Obj}
theorem wp_start1 (h : ∀ w0, Below w.heap.size w w0 → w0.heap[w.heap.size]? = some x → c.wp P Q act w0) : c.wp P Q act (w.alloc x) :=
  h _ ((Below.refl _ _).alloc (Nat.le_refl _) _) (heap_alloc_new _ _)
theorem wp_start2 (h : ∀ w0, Below w.heap.size w w0 → w0.heap[w.heap.size]? = some x → w0.heap[w.heap.size + 1]? = some y → c.wp P Q act w0) : c.wp P Q act ((w.alloc x).alloc y) :=
  have ⟨a1, a2, a3⟩ := start2 w x y
  h _ a1 a2 a3
theorem wp_start4 (h : ∀ w0, Below w.heap.size w w0 → w0.heap[w.heap.size]? = some x → w0.heap[w.heap.size + 1]? = some y → w0.heap[w.heap.size + 2]? = some z → w0.heap[w.heap.size + 3]? = some u → c.wp P Q act w0) : c.wp P Q act ((((w.alloc x).alloc y).alloc z).alloc u) :=
  have ⟨a1, a2, a3, a4, a5⟩ := start4 w x y z u
  h _ a1 a2 a3 a4 a5
end
theorem wpl {w : World} {b : Nat} {p : Pl} (h : Wd w b 16 (plf p)) : w.cell? ⟨b, 0, none⟩ = some (w64 (lim p.x 0)) ∧ w.cell? ⟨b, 1, none⟩ = some (w64 (lim p.x 1)) ∧ w.cell? ⟨b, 2, none⟩ = some (w64 (lim p.x 2)) ∧ w.cell? ⟨b, 3, none⟩ = some (w64 (lim p.x 3)) ∧ w.cell? ⟨b, 4, none⟩ = some (w64 (lim p.y 0)) ∧ w.cell? ⟨b, 5, none⟩ = some (w64 (lim p.y 1)) ∧ w.cell? ⟨b, 6, none⟩ = some (w64 (lim p.y 2)) ∧ w.cell? ⟨b, 7, none⟩ = some (w64 (lim p.y 3)) ∧ w.cell? ⟨b, 8, none⟩ = some (w64 (lim p.z 0)) ∧ w.cell? ⟨b, 9, none⟩ = some (w64 (lim p.z 1)) ∧ w.cell? ⟨b, 10, none⟩ = some (w64 (lim p.z 2)) ∧ w.cell? ⟨b, 11, none⟩ = some (w64 (lim p.z 3)) ∧ w.cell? ⟨b, 12, none⟩ = some (w64 (lim p.t 0)) ∧ w.cell? ⟨b, 13, none⟩ = some (w64 (lim p.t 1)) ∧ w.cell? ⟨b, 14, none⟩ = some (w64 (lim p.t 2)) ∧ w.cell? ⟨b, 15, none⟩ = some (w64 (lim p.t 3)) ∧ b < w.heap.size :=
  ⟨h.at_ 0 (by omega), h.at_ 1 (by omega), h.at_ 2 (by omega), h.at_ 3 (by omega), h.at_ 4 (by omega), h.at_ 5 (by omega), h.at_ 6 (by omega), h.at_ 7 (by omega), h.at_ 8 (by omega), h.at_ 9 (by omega), h.at_ 10 (by omega), h.at_ 11 (by omega), h.at_ 12 (by omega), h.at_ 13 (by omega), h.at_ 14 (by omega), h.at_ 15 (by omega), h.lt⟩
theorem wpo {w : World} {b x y : Nat} (h : Wd w b 8 (pof x y)) : w.cell? ⟨b, 0, none⟩ = some (w64 (lim x 0)) ∧ w.cell? ⟨b, 1, none⟩ = some (w64 (lim x 1)) ∧ w.cell? ⟨b, 2, none⟩ = some (w64 (lim x 2)) ∧ w.cell? ⟨b, 3, none⟩ = some (w64 (lim x 3)) ∧ w.cell? ⟨b, 4, none⟩ = some (w64 (lim y 0)) ∧ w.cell? ⟨b, 5, none⟩ = some (w64 (lim y 1)) ∧ w.cell? ⟨b, 6, none⟩ = some (w64 (lim y 2)) ∧ w.cell? ⟨b, 7, none⟩ = some (w64 (lim y 3)) ∧ b < w.heap.size :=
  ⟨h.at_ 0 (by omega), h.at_ 1 (by omega), h.at_ 2 (by omega), h.at_ 3 (by omega), h.at_ 4 (by omega), h.at_ 5 (by omega), h.at_ 6 (by omega), h.at_ 7 (by omega), h.lt⟩
theorem wz16 {w : World} {b : Nat} (h : Wd w b 16 (fun _ => 0)) : w.cell? ⟨b, 0, none⟩ = some (w64 0) ∧ w.cell? ⟨b, 1, none⟩ = some (w64 0) ∧ w.cell? ⟨b, 2, none⟩ = some (w64 0) ∧ w.cell? ⟨b, 3, none⟩ = some (w64 0) ∧ w.cell? ⟨b, 4, none⟩ = some (w64 0) ∧ w.cell? ⟨b, 5, none⟩ = some (w64 0) ∧ w.cell? ⟨b, 6, none⟩ = some (w64 0) ∧ w.cell? ⟨b, 7, none⟩ = some (w64 0) ∧ w.cell? ⟨b, 8, none⟩ = some (w64 0) ∧ w.cell? ⟨b, 9, none⟩ = some (w64 0) ∧ w.cell? ⟨b, 10, none⟩ = some (w64 0) ∧ w.cell? ⟨b, 11, none⟩ = some (w64 0) ∧ w.cell? ⟨b, 12, none⟩ = some (w64 0) ∧ w.cell? ⟨b, 13, none⟩ = some (w64 0) ∧ w.cell? ⟨b, 14, none⟩ = some (w64 0) ∧ w.cell? ⟨b, 15, none⟩ = some (w64 0) ∧ b < w.heap.size ∧ ∀ i, w.frozen? ⟨b, i, none⟩ = false :=
  ⟨h.at_ 0 (by omega), h.at_ 1 (by omega), h.at_ 2 (by omega), h.at_ 3 (by omega), h.at_ 4 (by omega), h.at_ 5 (by omega), h.at_ 6 (by omega), h.at_ 7 (by omega), h.at_ 8 (by omega), h.at_ 9 (by omega), h.at_ 10 (by omega), h.at_ 11 (by omega), h.at_ 12 (by omega), h.at_ 13 (by omega), h.at_ 14 (by omega), h.at_ 15 (by omega), h.lt, h.thaw⟩
theorem wz8 {w : World} {b : Nat} (h : Wd w b 8 (fun _ => 0)) : w.cell? ⟨b, 0, none⟩ = some (w64 0) ∧ w.cell? ⟨b, 1, none⟩ = some (w64 0) ∧ w.cell? ⟨b, 2, none⟩ = some (w64 0) ∧ w.cell? ⟨b, 3, none⟩ = some (w64 0) ∧ w.cell? ⟨b, 4, none⟩ = some (w64 0) ∧ w.cell? ⟨b, 5, none⟩ = some (w64 0) ∧ w.cell? ⟨b, 6, none⟩ = some (w64 0) ∧ w.cell? ⟨b, 7, none⟩ = some (w64 0) ∧ b < w.heap.size ∧ ∀ i, w.frozen? ⟨b, i, none⟩ = false :=
  ⟨h.at_ 0 (by omega), h.at_ 1 (by omega), h.at_ 2 (by omega), h.at_ 3 (by omega), h.at_ 4 (by omega), h.at_ 5 (by omega), h.at_ 6 (by omega), h.at_ 7 (by omega), h.lt, h.thaw⟩

/-- What the adder holds. -/
noncomputable def twN : Nat := addL [facN, facN]
theorem twN_lt : twN < 2 ^ 256 := Nat.lt_trans (addL_lt _) (by decide)
theorem open_any (w : World) : Calls Tryz.prog 158 #[] w fun e w' => e = .returned (numV twN) ∧ Below w.heap.size w w' := by
  go_enter Tryz.func158, Tryz.ntmps158
  go_upto_region 1 with (fail)
  have B0 := (Below.refl w.heap.size w).alloc (Nat.le_refl _) (Obj.cells #[Value.int .u64 0, Value.int .u64 0, Value.int .u64 0, Value.int .u64 0] 249)
  have O0 := wdz4 (heap_alloc_new w (Obj.cells #[Value.int .u64 0, Value.int .u64 0, Value.int .u64 0, Value.int .u64 0] 249))
  generalize w.alloc (Obj.cells #[Value.int .u64 0, Value.int .u64 0, Value.int .u64 0, Value.int .u64 0] 249) = w0 at *
  (refine wp_region_mildS 5 [false, false, false, false, false] (by kernel_rfl) ?_; simp only [List.take_succ_cons, List.take_zero, List.drop_succ_cons, List.drop_zero])
  (apply wpMildF_call; (focus (intro wm hm; have hrw := fun p h => Go.RowKit.Below.cell (p := p) hm h; go_simp; (exact Calls.mild (factor_any _)))); (focus (first | exact Go.md_stays_eq _ | (intro v w w' h hb; first | exact Bsl.below h hb | exact Sizes.stays _ _ _ h hb | (obtain ⟨c, h1, h2, h3⟩ := h; exact ⟨c, h1, h2, Vo.heap_below h3 hb⟩) | fail))); simp only [List.cons_append, List.nil_append])
  (apply wpMildF_call; (focus (intro wm hm; have hrw := fun p h => Go.RowKit.Below.cell (p := p) hm h; go_simp; (exact Calls.mild (factor_any _)))); (focus (first | exact Go.md_stays_eq _ | (intro v w w' h hb; first | exact Bsl.below h hb | exact Sizes.stays _ _ _ h hb | (obtain ⟨c, h1, h2, h3⟩ := h; exact ⟨c, h1, h2, Vo.heap_below h3 hb⟩) | fail))); simp only [List.cons_append, List.nil_append])
  (refine wpMildF_some (fun v w' => ∃ c, v = .slice (some ⟨c, 0, none⟩) 2 2 ∧ 0 ≤ c ∧ w'.heap[c]? = some (rowp facN facN)) ?_ ?_ ?_; (focus (intro wm hm; have hrw := fun p h => Go.RowKit.Below.cell (p := p) hm h; go_simp; (exact ⟨(Below.refl _ _).alloc (Nat.le_refl _) _, by first | exact heap_alloc_new _ _ | exact (Array.getElem?_eq_some_iff.1 (heap_alloc_new _ _)).2 | exact ⟨Nat.zero_le _, heap_alloc_new _ _⟩⟩))); (focus (first | exact Go.md_stays_eq _ | (intro v w w' h hb; first | exact Bsl.below h hb | exact Sizes.stays _ _ _ h hb | (obtain ⟨c, h1, h2, h3⟩ := h; exact ⟨c, h1, h2, Vo.heap_below h3 hb⟩) | fail))); simp only [List.cons_append, List.nil_append])
  (apply wpMildF_call; (focus (intro wm hm; have hrw := fun p h => Go.RowKit.Below.cell (p := p) hm h; go_simp; (intro v c hv hc; subst hv; exact Calls.mild (add2_any facN facN c 2 _ (nums2 hc) facN_lt facN_lt)))); (focus (first | exact Go.md_stays_eq _ | (intro v w w' h hb; first | exact Bsl.below h hb | exact Sizes.stays _ _ _ h hb | (obtain ⟨c, h1, h2, h3⟩ := h; exact ⟨c, h1, h2, Vo.heap_below h3 hb⟩) | fail))); simp only [List.cons_append, List.nil_append])
  (apply wpMildF_const; (focus (intro wm hm; have hrw := fun p h => Go.RowKit.Below.cell (p := p) hm h; go_simp; exact rfl)); simp only [List.cons_append, List.nil_append])
  (refine wpMildF_nil ?_; intro wm hm; simp only [mildAllF, MWord.blk_at, md_off, forall_eq, forall_exists_index, and_imp, and_true, true_implies, Act.put, List.setIfInBounds_toArray, List.set_cons_succ, List.set_cons_zero, forall_eq_apply_imp_iff])
  intro _ _ _ _ _
  have O3 := O0.below hm
  have B3 := B0.trans (hm.mono B0.size)
  obtain ⟨o0, o1, o2, o3, lo, fo⟩ := wz4 O3
  have hzs := B3.size
  have HE : Hid (addL [facN, facN] = twN) := Lib.hid rfl
  clear hm O0 O3
  generalize addL [facN, facN] = n at *
  go_wp2
  refine bodyPost_ret (by simp [results, Tryz.results158, go_sem, o0, o1, o2, o3]; try rfl) rfl ?_
  exact ⟨by rw [← HE.out], by go_grown⟩

theorem naught_any (w : World) : Calls Tryz.prog 159 #[] w fun e w' => e = .returned (pointV 0 1) ∧ Below w.heap.size w w' := by
  go_enter Tryz.func159, Tryz.ntmps159
  go_upto_region 1 with (fail)
  have B0 := (Below.refl w.heap.size w).alloc (Nat.le_refl _) (Obj.cells #[Value.int .u64 0, Value.int .u64 0, Value.int .u64 0, Value.int .u64 0, Value.int .u64 0, Value.int .u64 0, Value.int .u64 0, Value.int .u64 0] 152)
  have O0 := wdz8 (heap_alloc_new w (Obj.cells #[Value.int .u64 0, Value.int .u64 0, Value.int .u64 0, Value.int .u64 0, Value.int .u64 0, Value.int .u64 0, Value.int .u64 0, Value.int .u64 0] 152))
  generalize w.alloc (Obj.cells #[Value.int .u64 0, Value.int .u64 0, Value.int .u64 0, Value.int .u64 0, Value.int .u64 0, Value.int .u64 0, Value.int .u64 0, Value.int .u64 0] 152) = w0 at *
  (refine wp_region_mildS 3 [false, false, false] (by kernel_rfl) ?_; simp only [List.take_succ_cons, List.take_zero, List.drop_succ_cons, List.drop_zero])
  (apply wpMildF_const; (focus (intro wm hm; have hrw := fun p h => Go.RowKit.Below.cell (p := p) hm h; go_simp; exact rfl)); simp only [List.cons_append, List.nil_append])
  (apply wpMildF_call; (focus (intro wm hm; have hrw := fun p h => Go.RowKit.Below.cell (p := p) hm h; go_simp; (exact Calls.mild (one_any _)))); (focus (first | exact Go.md_stays_eq _ | (intro v w w' h hb; first | exact Bsl.below h hb | exact Sizes.stays _ _ _ h hb | (obtain ⟨c, h1, h2, h3⟩ := h; exact ⟨c, h1, h2, Vo.heap_below h3 hb⟩) | fail))); simp only [List.cons_append, List.nil_append])
  (apply wpMildF_const; (focus (intro wm hm; have hrw := fun p h => Go.RowKit.Below.cell (p := p) hm h; go_simp; exact rfl)); simp only [List.cons_append, List.nil_append])
  (refine wpMildF_nil ?_; intro wm hm; simp only [mildAllF, MWord.blk_at, md_off, forall_eq, forall_exists_index, and_imp, and_true, true_implies, Act.put, List.setIfInBounds_toArray, List.set_cons_succ, List.set_cons_zero, forall_eq_apply_imp_iff])
  have O3 := O0.below hm
  have B3 := B0.trans (hm.mono B0.size)
  obtain ⟨o0, o1, o2, o3, o4, o5, o6, o7, lo, fo⟩ := wz8 O3
  have hzs := B3.size
  clear hm O0 O3
  go_wp2
  refine bodyPost_ret (by simp [results, Tryz.results159, go_sem, o0, o1, o2, o3, o4, o5, o6, o7]; try rfl) rfl ?_
  exact ⟨rfl, by go_grown⟩

theorem far_any (x y : Nat) (w : World) (hx : x < 2 ^ 256) (hy : y < 2 ^ 256) :
    Calls Tryz.prog 160 #[pointV x y] w fun e w' => e = .returned (placeV ⟨x, y, 1, mulL [x, y]⟩) ∧ Below w.heap.size w w' := by
  have HX := Lib.hid hx
  have HY := Lib.hid hy
  clear hx hy
  go_enter Tryz.func160, Tryz.ntmps160
  go_upto_region 1 with (fail)
  refine wp_start2 ?_
  intro w0 B0 hA hO
  have A0 := wd_po hA
  have O0 := wdz16 hO
  clear hA hO
  obtain ⟨a0, a1, a2, a3, a4, a5, a6, a7, la⟩ := wpo A0
  (refine wp_region_mildF 9 [false, false, false, false, false, false, false, false, false] (by kernel_rfl) (by kernel_rfl) ?_; simp only [List.take_succ_cons, List.take_zero, List.drop_succ_cons, List.drop_zero])
  (apply wpMildF_const; (focus (intro wm hm; have hrw := fun p h => Go.RowKit.Below.cell (p := p) hm h; go_simp; exact rfl)); simp only [List.cons_append, List.nil_append])
  (apply wpMildF_call; (focus (intro wm hm; have hrw := fun p h => Go.RowKit.Below.cell (p := p) hm h; go_simp; (exact Calls.mild (one_any _)))); (focus (first | exact Go.md_stays_eq _ | (intro v w w' h hb; first | exact Bsl.below h hb | exact Sizes.stays _ _ _ h hb | (obtain ⟨c, h1, h2, h3⟩ := h; exact ⟨c, h1, h2, Vo.heap_below h3 hb⟩) | fail))); simp only [List.cons_append, List.nil_append])
  (apply wpMildF_const; (focus (intro wm hm; have hrw := fun p h => Go.RowKit.Below.cell (p := p) hm h; go_simp; exact rfl)); simp only [List.cons_append, List.nil_append])
  (apply wpMildF_const; (focus (intro wm hm; have hrw := fun p h => Go.RowKit.Below.cell (p := p) hm h; go_simp; exact rfl)); simp only [List.cons_append, List.nil_append])
  (apply wpMildF_const; (focus (intro wm hm; have hrw := fun p h => Go.RowKit.Below.cell (p := p) hm h; go_simp; exact rfl)); simp only [List.cons_append, List.nil_append])
  (apply wpMildF_const; (focus (intro wm hm; have hrw := fun p h => Go.RowKit.Below.cell (p := p) hm h; go_simp; exact rfl)); simp only [List.cons_append, List.nil_append])
  (refine wpMildF_some (fun v w' => ∃ c, v = .slice (some ⟨c, 0, none⟩) 2 2 ∧ 0 ≤ c ∧ w'.heap[c]? = some (rowp x y)) ?_ ?_ ?_; (focus (intro wm hm; have hrw := fun p h => Go.RowKit.Below.cell (p := p) hm h; go_simp; (exact ⟨(Below.refl _ _).alloc (Nat.le_refl _) _, by first | exact heap_alloc_new _ _ | exact (Array.getElem?_eq_some_iff.1 (heap_alloc_new _ _)).2 | exact ⟨Nat.zero_le _, heap_alloc_new _ _⟩⟩))); (focus (first | exact Go.md_stays_eq _ | (intro v w w' h hb; first | exact Bsl.below h hb | exact Sizes.stays _ _ _ h hb | (obtain ⟨c, h1, h2, h3⟩ := h; exact ⟨c, h1, h2, Vo.heap_below h3 hb⟩) | fail))); simp only [List.cons_append, List.nil_append])
  (apply wpMildF_call; (focus (intro wm hm; have hrw := fun p h => Go.RowKit.Below.cell (p := p) hm h; go_simp; (intro v c hv hc; subst hv; exact Calls.mild (mul2_any x y c 2 _ (nums2 hc) HX.out HY.out)))); (focus (first | exact Go.md_stays_eq _ | (intro v w w' h hb; first | exact Bsl.below h hb | exact Sizes.stays _ _ _ h hb | (obtain ⟨c, h1, h2, h3⟩ := h; exact ⟨c, h1, h2, Vo.heap_below h3 hb⟩) | fail))); simp only [List.cons_append, List.nil_append])
  (apply wpMildF_const; (focus (intro wm hm; have hrw := fun p h => Go.RowKit.Below.cell (p := p) hm h; go_simp; exact rfl)); simp only [List.cons_append, List.nil_append])
  (refine wpMildF_nil ?_; intro wm hm; simp only [mildAllF, MWord.blk_at, md_off, forall_eq, forall_exists_index, and_imp, and_true, true_implies, Act.put, List.setIfInBounds_toArray, List.set_cons_succ, List.set_cons_zero, forall_eq_apply_imp_iff])
  intro _ _ _ _ _
  have O3 := O0.below hm
  have B3 := B0.trans (hm.mono B0.size)
  obtain ⟨o0, o1, o2, o3, o4, o5, o6, o7, o8, o9, o10, o11, o12, o13, o14, o15, lo, fo⟩ := wz16 O3
  have hzs := B3.size
  clear hm O0 O3
  clear a0 a1 a2 a3 a4 a5 a6 a7 la
  go_wp2
  refine bodyPost_ret (by simp [results, Tryz.results160, go_sem, o0, o1, o2, o3, o4, o5, o6, o7, o8, o9, o10, o11, o12, o13, o14, o15]; try rfl) rfl ?_
  exact ⟨rfl, by go_grown⟩

theorem near_any (p : Pl) (w : World) (hp : p.Ok) :
    Calls Tryz.prog 162 #[placeV p] w fun e w' => e = .returned (pointV (mulL [p.x, invN p.z]) (mulL [p.y, invN p.z])) ∧ Below w.heap.size w w' := by
  have HP := Lib.hid hp
  have HI := Lib.hid (fun w => inverse_any p.z w hp.z)
  clear hp
  go_enter Tryz.func162, Tryz.ntmps162
  go_upto_region 1 with (fail)
  refine wp_start2 ?_
  intro w0 B0 hA hO
  have A0 := wd_pl hA
  have O0 := wdz8 hO
  clear hA hO
  obtain ⟨a0, a1, a2, a3, a4, a5, a6, a7, a8, a9, a10, a11, a12, a13, a14, a15, la⟩ := wpl A0
  (refine wp_region_mildS 4 [false, false, false, true] (by kernel_rfl) ?_; simp only [List.take_succ_cons, List.take_zero, List.drop_succ_cons, List.drop_zero])
  (apply wpMildF_const; (focus (intro wm hm; have hrw := fun p h => Go.RowKit.Below.cell (p := p) hm h; go_simp; exact rfl)); simp only [List.cons_append, List.nil_append])
  (apply wpMildF_const; (focus (intro wm hm; have hrw := fun p h => Go.RowKit.Below.cell (p := p) hm h; go_simp; exact rfl)); simp only [List.cons_append, List.nil_append])
  (apply wpMildF_call; (focus (intro wm hm; have hrw := fun p h => Go.RowKit.Below.cell (p := p) hm h; go_simp; (exact Calls.mild (HI.out _)))); (focus (first | exact Go.md_stays_eq _ | (intro v w w' h hb; first | exact Bsl.below h hb | exact Sizes.stays _ _ _ h hb | (obtain ⟨c, h1, h2, h3⟩ := h; exact ⟨c, h1, h2, Vo.heap_below h3 hb⟩) | fail))); simp only [List.cons_append, List.nil_append])
  (apply wpMildF_new; (focus (intro wm hm; have hrw := fun p h => Go.RowKit.Below.cell (p := p) hm h; go_simp; first | exact rfl | exact ⟨rfl, rfl⟩)); simp only [List.cons_append, List.nil_append])
  (refine wpMildF_nil ?_; intro wm hm; simp only [mildAllF, MWord.blk_at, md_off, forall_eq, forall_exists_index, and_imp, and_true, true_implies, Act.put, List.setIfInBounds_toArray, List.set_cons_succ, List.set_cons_zero, forall_eq_apply_imp_iff])
  intro i i_l i_h
  clear a0 a1 a2 a3 a4 a5 a6 a7 a8 a9 a10 a11 a12 a13 a14 a15 la
  ((have Zi := wd_zero i_h); (obtain ⟨i_0, i_1, i_2, i_3, i_s, i_f⟩ := wz4 Zi); (go_upto_region 2 with (fail)); (have hb := (bel_all (n := invN p.z) hm i_l)); (have B1 := B0.trans (hb.mono B0.size)); (have A1 := A0.below hb); (have O1 := O0.below hb); (have Ci := (Zi.all (n := invN p.z))); (clear hb hm Zi i_0 i_1 i_2 i_3 i_s i_f i_h i_l); (generalize (World.setCell (World.setCell (World.setCell (World.setCell wm ⟨i, 0, none⟩ (w64 (lim (invN p.z) 0))) ⟨i, 1, none⟩ (w64 (lim (invN p.z) 1))) ⟨i, 2, none⟩ (w64 (lim (invN p.z) 2))) ⟨i, 3, none⟩ (w64 (lim (invN p.z) 3))) = w1 at *); (obtain ⟨iv, hiv⟩ : ∃ iv, iv = invN p.z := ⟨_, rfl⟩); (have HEiv := Lib.hid hiv); (have HLiv : Hid (iv < 2 ^ 256) := Lib.hid (hiv ▸ invN_lt _)); (rw [← hiv] at Ci); (clear hiv))
  obtain ⟨a0, a1, a2, a3, a4, a5, a6, a7, a8, a9, a10, a11, a12, a13, a14, a15, la⟩ := wpl A1
  obtain ⟨i0, i1, i2, i3, li⟩ := wd4 Ci
  (refine wp_region_mildF 13 [false, false, false, false, false, false, false, false, false, false, false, false, false] (by kernel_rfl) (by kernel_rfl) ?_; simp only [List.take_succ_cons, List.take_zero, List.drop_succ_cons, List.drop_zero])
  (apply wpMildF_const; (focus (intro wm hm; have hrw := fun p h => Go.RowKit.Below.cell (p := p) hm h; go_simp; exact rfl)); simp only [List.cons_append, List.nil_append])
  (apply wpMildF_const; (focus (intro wm hm; have hrw := fun p h => Go.RowKit.Below.cell (p := p) hm h; go_simp; exact rfl)); simp only [List.cons_append, List.nil_append])
  (apply wpMildF_const; (focus (intro wm hm; have hrw := fun p h => Go.RowKit.Below.cell (p := p) hm h; go_simp; exact rfl)); simp only [List.cons_append, List.nil_append])
  (apply wpMildF_const; (focus (intro wm hm; have hrw := fun p h => Go.RowKit.Below.cell (p := p) hm h; go_simp; exact rfl)); simp only [List.cons_append, List.nil_append])
  (refine wpMildF_some (fun v w' => ∃ c, v = .slice (some ⟨c, 0, none⟩) 2 2 ∧ 0 ≤ c ∧ w'.heap[c]? = some (rowp p.x iv)) ?_ ?_ ?_; (focus (intro wm hm; have hrw := fun p h => Go.RowKit.Below.cell (p := p) hm h; go_simp; (exact ⟨(Below.refl _ _).alloc (Nat.le_refl _) _, by first | exact heap_alloc_new _ _ | exact (Array.getElem?_eq_some_iff.1 (heap_alloc_new _ _)).2 | exact ⟨Nat.zero_le _, heap_alloc_new _ _⟩⟩))); (focus (first | exact Go.md_stays_eq _ | (intro v w w' h hb; first | exact Bsl.below h hb | exact Sizes.stays _ _ _ h hb | (obtain ⟨c, h1, h2, h3⟩ := h; exact ⟨c, h1, h2, Vo.heap_below h3 hb⟩) | fail))); simp only [List.cons_append, List.nil_append])
  (apply wpMildF_call; (focus (intro wm hm; have hrw := fun p h => Go.RowKit.Below.cell (p := p) hm h; go_simp; (intro v c hv hc; subst hv; exact Calls.mild (mul2_any p.x iv c 2 _ (nums2 hc) HP.out.x HLiv.out)))); (focus (first | exact Go.md_stays_eq _ | (intro v w w' h hb; first | exact Bsl.below h hb | exact Sizes.stays _ _ _ h hb | (obtain ⟨c, h1, h2, h3⟩ := h; exact ⟨c, h1, h2, Vo.heap_below h3 hb⟩) | fail))); simp only [List.cons_append, List.nil_append])
  (apply wpMildF_const; (focus (intro wm hm; have hrw := fun p h => Go.RowKit.Below.cell (p := p) hm h; go_simp; exact rfl)); simp only [List.cons_append, List.nil_append])
  (apply wpMildF_const; (focus (intro wm hm; have hrw := fun p h => Go.RowKit.Below.cell (p := p) hm h; go_simp; exact rfl)); simp only [List.cons_append, List.nil_append])
  (apply wpMildF_const; (focus (intro wm hm; have hrw := fun p h => Go.RowKit.Below.cell (p := p) hm h; go_simp; exact rfl)); simp only [List.cons_append, List.nil_append])
  (apply wpMildF_const; (focus (intro wm hm; have hrw := fun p h => Go.RowKit.Below.cell (p := p) hm h; go_simp; exact rfl)); simp only [List.cons_append, List.nil_append])
  (refine wpMildF_some (fun v w' => ∃ c, v = .slice (some ⟨c, 0, none⟩) 2 2 ∧ 0 ≤ c ∧ w'.heap[c]? = some (rowp p.y iv)) ?_ ?_ ?_; (focus (intro wm hm; have hrw := fun p h => Go.RowKit.Below.cell (p := p) hm h; go_simp; (exact ⟨(Below.refl _ _).alloc (Nat.le_refl _) _, by first | exact heap_alloc_new _ _ | exact (Array.getElem?_eq_some_iff.1 (heap_alloc_new _ _)).2 | exact ⟨Nat.zero_le _, heap_alloc_new _ _⟩⟩))); (focus (first | exact Go.md_stays_eq _ | (intro v w w' h hb; first | exact Bsl.below h hb | exact Sizes.stays _ _ _ h hb | (obtain ⟨c, h1, h2, h3⟩ := h; exact ⟨c, h1, h2, Vo.heap_below h3 hb⟩) | fail))); simp only [List.cons_append, List.nil_append])
  (apply wpMildF_call; (focus (intro wm hm; have hrw := fun p h => Go.RowKit.Below.cell (p := p) hm h; go_simp; (intro v c hv hc; subst hv; exact Calls.mild (mul2_any p.y iv c 2 _ (nums2 hc) HP.out.y HLiv.out)))); (focus (first | exact Go.md_stays_eq _ | (intro v w w' h hb; first | exact Bsl.below h hb | exact Sizes.stays _ _ _ h hb | (obtain ⟨c, h1, h2, h3⟩ := h; exact ⟨c, h1, h2, Vo.heap_below h3 hb⟩) | fail))); simp only [List.cons_append, List.nil_append])
  (apply wpMildF_const; (focus (intro wm hm; have hrw := fun p h => Go.RowKit.Below.cell (p := p) hm h; go_simp; exact rfl)); simp only [List.cons_append, List.nil_append])
  (refine wpMildF_nil ?_; intro wm hm; simp only [mildAllF, MWord.blk_at, md_off, forall_eq, forall_exists_index, and_imp, and_true, true_implies, Act.put, List.setIfInBounds_toArray, List.set_cons_succ, List.set_cons_zero, forall_eq_apply_imp_iff])
  intro _ _ _ _ _ _ _ _ _ _
  have O3 := O1.below hm
  have B3 := B1.trans (hm.mono B1.size)
  obtain ⟨o0, o1, o2, o3, o4, o5, o6, o7, lo, fo⟩ := wz8 O3
  have hzs := B3.size
  clear a0 a1 a2 a3 a4 a5 a6 a7 a8 a9 a10 a11 a12 a13 a14 a15 la i0 i1 i2 i3 li
  clear hm O1 O3
  go_wp2
  refine bodyPost_ret (by simp [results, Tryz.results162, go_sem, o0, o1, o2, o3, o4, o5, o6, o7]; try rfl) rfl ?_
  exact ⟨by rw [HEiv.out], by go_grown⟩
end Go.Proofs.YtlgghcffmnofdaaGreatDoor.Nu
