/-
  The walks of sign: open, public, Public.
-/
import Derived.Test.YtlgghcffmnofdaaGreatDoorShaJKLM
import Derived.Test.YtlgghcffmnofdaaGreatDoorSignAQ

namespace Go.Proofs.YtlgghcffmnofdaaGreatDoor.Sh
open Go Go.RowKit Go.Proofs.YtlgghcffmnofdaaGreatDoor.Cn Go.Proofs.YtlgghcffmnofdaaGreatDoor.Nu Go.Proofs.YtlgghcffmnofdaaGreatDoor.St
set_option linter.unusedSimpArgs false
set_option maxRecDepth 100000

/-- Four words are a number's. -/
theorem words_num (a b c d : Nat) (ha : a < 18446744073709551616) (hb : b < 18446744073709551616) (hc : c < 18446744073709551616) (hd : d < 18446744073709551616) : ∃ n, lim n 0 = a ∧ lim n 1 = b ∧ lim n 2 = c ∧ lim n 3 = d := by
  refine ⟨a + 18446744073709551616 * (b + 18446744073709551616 * (c + 18446744073709551616 * d)), ?_, ?_, ?_, ?_⟩
  all_goals
    unfold lim
    simp only [Nat.mul_zero, Nat.pow_zero, Nat.reduceMul, Nat.reducePow, Nat.div_one]
    omega
theorem parts1h {w : World} {v1 : Value} {l1 : List UInt8} {c : Nat} {t : TypeId} (h : w.heap[c]? = some (.cells #[v1] t (0, 0))) (h1 : Bsl w v1 l1) : Parts w c [v1] [l1] := by
  refine ⟨rfl, fun i hi => ?_, fun i hi hi' => ?_, Vo.heap_lt h⟩
  · rw [cell_of_row _ c i _ _ _ h]
    obtain rfl : i = 0 := by simp at hi; omega
    rfl
  · obtain rfl : i = 0 := by simp at hi; omega
    exact h1

theorem bw_half {w : World} {c : Nat} {l : List UInt8} {t : TypeId} (h : Bw w c l t) (hl : l.length = 64) : Bsl w (.slice (some ⟨c, 32, none⟩) 32 32) (l.drop 32) := by
  have h1 := h.bsl
  have := Bsl.sub h1 32 32 32 (by omega) (by decide)
  rw [List.take_of_length_le (by rw [List.length_drop, hl]; decide)] at this
  simpa using this
theorem bits_u64_nat (op : BinOp) (hop : op = .andNot ∨ op = .or) (a b : Int) : ∃ n : Nat, n < 18446744073709551616 ∧ bits op .u64 a b = (n : Int) := by
  have h : 0 ≤ bits op .u64 a b ∧ bits op .u64 a b < 18446744073709551616 := by
    rcases hop with rfl | rfl
    all_goals
      unfold bits
      simp only [IntKind.wrap_u64]
      omega
  exact ⟨(bits op .u64 a b).toNat, by omega, by omega⟩

set_option maxHeartbeats 16000000 in
theorem open_ex (K st : Nat → Nat) (l : List UInt8) (hst : ∀ i, i < 8 → st i < 18446744073709551616) (hl : l.length = 32) : ∃ k, ∀ v w, Bsl w v l → Wd w 2 8 st → Wd w 6 80 K →
    Calls Tryz.prog 85 #[v] w fun e w' => ∃ sl, e = .returned (.tuple #[.agg #[w64 (lim k 0), w64 (lim k 1), w64 (lim k 2), w64 (lim k 3), sl], .int .i64 0]) ∧ Bsl w' sl ((shaN K st l 64).drop 32) ∧ Below w.heap.size w w' := by
  have hRL : (shaN K st l 64).length = 64 := shaN_length K st _ 64 (by decide)
  have HS5 := Lib.hid (fun b w hp hS hK => sum512_any K st [] [l] b 1 w hp hst hS hK (by simp; omega) (by simp))
  have HS6 : Hid (∀ v b w, Parts w b [v] [l] → Wd w 2 8 st → Wd w 6 80 K → Calls Tryz.prog 128 #[.slice (some ⟨b, 0, none⟩) 1 1] w fun e w' => e = .returned (.agg (brow (shaN K st l 64))) ∧ Below w.heap.size w w') := Lib.hid (fun v b w hp hS hK => by
    have h := sum512_any K st [v] [l] b 1 w hp hst hS hK (by simp; omega) (by simp)
    rw [show [l].flatten = l by simp] at h
    exact h)
  clear HS5
  obtain ⟨R, hR⟩ : ∃ R, R = shaN K st l 64 := ⟨_, rfl⟩
  rw [← hR] at hRL HS6 ⊢
  clear hR
  have hof : ∀ v w, Bsl w v (R.take 32) → Calls Tryz.prog 103 #[v] w fun e w' => e = .returned (.tuple #[numV (leN (R.take 32)), .int .i64 0]) ∧ Below w.heap.size w w' := fun v w h => of_any (R.take 32) v w h (by rw [List.length_take, hRL]; rfl)
  have HOF := Lib.hid hof
  have HRL := Lib.hid hRL
  clear hof hRL
  generalize leN (R.take 32) = m at *
  obtain ⟨a0, ha0, e0⟩ := bits_u64_nat .andNot (.inl rfl) ((lim m 0 : Nat) : Int) 7
  obtain ⟨b3, hb3, eb3⟩ := bits_u64_nat .andNot (.inl rfl) ((lim m 3 : Nat) : Int) 13835058055282163712
  obtain ⟨a3, ha3, e3⟩ := bits_u64_nat .or (.inr rfl) (b3 : Int) 4611686018427387904
  obtain ⟨k, k0, k1, k2, k3⟩ := words_num a0 (lim m 1) (lim m 2) a3 ha0 (lim_lt _ _) (lim_lt _ _) ha3
  refine ⟨k, fun v w hv hS hK => ?_⟩
  have HF : Hid (∀ i, i < 4 → lim k i = if i = 3 then a3 else if i = 0 then a0 else lim m i) := Lib.hid (fun i hi => by
    obtain rfl | rfl | rfl | rfl : i = 0 ∨ i = 1 ∨ i = 2 ∨ i = 3 := by omega
    · exact k0
    · exact k1
    · exact k2
    · exact k3)
  clear ha0 hb3 ha3 k0 k1 k2 k3 hst
  have HLL := Lib.hid hl
  clear hl
  obtain ⟨va, vn, vc, rfl⟩ := bsl_slice hv
  obtain rfl : vn = 32 := by
    obtain ⟨a, c, he, _, _⟩ := hv
    simp only [Value.slice.injEq] at he
    rw [HLL.out] at he
    exact he.2.1
  have HV := Lib.hid hv
  have HSW := Lib.hid hS
  have HKW := Lib.hid hK
  clear hv hS hK
  go_enter Tryz.func85, Tryz.ntmps85
  go_upto_region 1 with (fail)
  refine wp_start1 ?_
  intro w0 B0 hO
  have HV0 := Lib.hid (HV.out.below B0)
  have HS0 := Lib.hid (HSW.out.below B0)
  have HK0 := Lib.hid (HKW.out.below B0)
  go_upto_region 3 with (fail)
  (refine wp_region_mildS 4 [false, false, false, true] (by kernel_rfl) ?_; simp only [List.take_succ_cons, List.take_zero, List.drop_succ_cons, List.drop_zero])
  (apply wpMildF_const; (focus (intro wm hm; have hrw := fun p h => Go.RowKit.Below.cell (p := p) hm h; go_simp; exact rfl)); simp only [List.cons_append, List.nil_append])
  (refine wpMildF_some (fun v w' => ∃ c, v = .slice (some ⟨c, 0, none⟩) 1 1 ∧ 0 ≤ c ∧ w'.heap[c]? = some (Obj.cells #[.slice va 32 vc] 36)) ?_ ?_ ?_; (focus (intro wm hm; have hrw := fun p h => Go.RowKit.Below.cell (p := p) hm h; go_simp; (exact ⟨(Below.refl _ _).alloc (Nat.le_refl _) _, by first | exact heap_alloc_new _ _ | exact (Array.getElem?_eq_some_iff.1 (heap_alloc_new _ _)).2 | exact ⟨Nat.zero_le _, heap_alloc_new _ _⟩⟩))); (focus (first | exact Go.md_stays_eq _ | (intro v w w' h hb; first | exact Bsl.below h hb | exact Sizes.stays _ _ _ h hb | (obtain ⟨c, h1, h2, h3⟩ := h; exact ⟨c, h1, h2, Vo.heap_below h3 hb⟩) | fail))); simp only [List.cons_append, List.nil_append])
  (apply wpMildF_call; (focus (intro wm hm; have hrw := fun p h => Go.RowKit.Below.cell (p := p) hm h; go_simp; (intro v c hv hc; subst hv; exact Calls.mild (HS6.out _ c _ (parts1h hc (HV0.out.below hm)) (HS0.out.below hm) (HK0.out.below hm))))); (focus (first | exact Go.md_stays_eq _ | (intro v w w' h hb; first | exact Bsl.below h hb | exact Sizes.stays _ _ _ h hb | (obtain ⟨c, h1, h2, h3⟩ := h; exact ⟨c, h1, h2, Vo.heap_below h3 hb⟩) | fail))); simp only [List.cons_append, List.nil_append])
  (apply wpMildF_new; (focus (intro wm hm; have hrw := fun p h => Go.RowKit.Below.cell (p := p) hm h; go_simp; first | exact rfl | exact ⟨rfl, rfl⟩)); simp only [List.cons_append, List.nil_append])
  (refine wpMildF_nil ?_; intro wm hm; simp only [mildAllF, MWord.blk_at, md_off, forall_eq, forall_exists_index, and_imp, and_true, true_implies, Act.put, List.setIfInBounds_toArray, List.set_cons_succ, List.set_cons_zero, forall_eq_apply_imp_iff])
  intro v12 x hv12 _ _ c c_l c_h
  have A0 : Bw wm c (List.replicate 64 0) 207 := c_h
  refine st_store (run_store64 A0 (by decide) HRL.out) rfl rfl rfl rfl ?_
  simp only [Act.put]
  have A1 := bw_set A0 R
  have Bc := Go.below_setRow hm c_l (brow R)
  have HO1 := Lib.hid (Vo.heap_below hO Bc)
  have HB1 := Lib.hid (B0.trans (Bc.mono B0.size))
  have hcw : w.heap.size < c := Nat.lt_of_lt_of_le (Vo.heap_lt hO) c_l
  have HCW := Lib.hid hcw
  clear hv12 c_h c_l A0 hm hO B0 HV0 HS0 HK0 HV HSW HKW HS6 hcw Bc
  generalize wm.setRow c (brow R) = w1 at *
  have hbs : Bsl w1 (.slice (some ⟨c, 0, none⟩) 64 64) R := by
    have := A1.bsl
    rw [HRL.out] at this
    exact this
  have HBS : Hid (Bsl w1 (.slice (some ⟨c, 0, none⟩) 32 64) (R.take 32)) := Lib.hid (by
    have := Bsl.sub hbs 0 32 64 (by rw [HRL.out]; decide) (by decide)
    simpa using this)
  have HA1 := Lib.hid A1
  have hcl := md_heap_lt A1
  clear hbs A1
  go_wp2_with fail
  refine (HOF.out _ _ HBS.out).mono ?_
  rintro e w2 ⟨rfl, hb2⟩
  have HA2 := Lib.hid (HA1.out.below hb2)
  have HO2 := Lib.hid (Vo.heap_below HO1.out hb2)
  have HB2 := Lib.hid (HB1.out.trans (hb2.mono HB1.out.size))
  clear hb2 hcl HA1 HO1 HB1 HBS HOF
  go_upto_region 5 with (fail)
  refine wp_start1 ?_
  intro w3 hb3 hN
  have HA3 := Lib.hid (HA2.out.below hb3)
  have HO3 := Lib.hid (Vo.heap_below HO2.out hb3)
  have HB3 := Lib.hid (HB2.out.trans (hb3.mono HB2.out.size))
  have HB2S := Lib.hid (And.intro (Vo.heap_lt HO2.out) (md_heap_lt HA2.out))
  clear hb3 HA2 HO2 HB2
  obtain ⟨N, hNN⟩ : ∃ N, N = w2.heap.size := ⟨_, rfl⟩
  have hwN : w.heap.size < N ∧ c < N := by rw [hNN]; exact HB2S.out
  rw [← hNN] at hN ⊢
  have HWN := Lib.hid hwN
  have RN := wd_row hN
  have n0 := RN.at_ 0 (by omega)
  have n3 := RN.at_ 3 (by omega)
  have ln := RN.lt
  have fn := RN.thaw
  clear hNN hwN
  go_upto_region 7 with (fail)
  have R6 : Wd ((w3.setCell ⟨N, 0, none⟩ (w64 a0)).setCell ⟨N, 3, none⟩ (w64 a3)) N 4 (lim k) :=
    (RN.set (j := 0) (by decide) a0 (g := fun i => if i = 0 then a0 else lim m i) (fun i _ => rfl)).set (j := 3) (by decide) a3 HF.out
  have B6 := (HB3.out.setCell (p := ⟨N, 0, none⟩) (Nat.le_of_lt HWN.out.1) (w64 a0)).setCell (p := ⟨N, 3, none⟩) (Nat.le_of_lt HWN.out.1) (w64 a3)
  have A6 : Bw ((w3.setCell ⟨N, 0, none⟩ (w64 a0)).setCell ⟨N, 3, none⟩ (w64 a3)) c R 207 := by
    unfold Bw
    rw [Below.heap_setCell _ _ _ _ (by have := HWN.out.2; simp; omega), Below.heap_setCell _ _ _ _ (by have := HWN.out.2; simp; omega)]
    exact HA3.out
  have O6 : ((w3.setCell ⟨N, 0, none⟩ (w64 a0)).setCell ⟨N, 3, none⟩ (w64 a3)).heap[w.heap.size]? = some (Obj.cells #[Value.int IntKind.u64 0, Value.int IntKind.u64 0, Value.int IntKind.u64 0, Value.int IntKind.u64 0, Value.slice none 0 0] 156) := by
    rw [Below.heap_setCell _ _ _ _ (by have := HWN.out.1; simp; omega), Below.heap_setCell _ _ _ _ (by have := HWN.out.1; simp; omega)]
    exact HO3.out
  generalize (w3.setCell ⟨N, 0, none⟩ (w64 a0)).setCell ⟨N, 3, none⟩ (w64 a3) = w6 at *
  have HB6 := Lib.hid B6
  have HA6 := Lib.hid A6
  have HO6 := Lib.hid O6
  have HR6 := Lib.hid R6
  have n0 := R6.at_ 0 (by omega)
  have n1 := R6.at_ 1 (by omega)
  have n2 := R6.at_ 2 (by omega)
  have n3 := R6.at_ 3 (by omega)
  have ln := R6.lt
  have la := md_heap_lt A6
  clear R6 B6 A6 O6 HA3 HO3 HB3 RN fn hN e0 eb3 e3 HF
  (refine wp_region_mildF 3 [false, false, false] (by kernel_rfl) (by kernel_rfl) ?_; simp only [List.take_succ_cons, List.take_zero, List.drop_succ_cons, List.drop_zero])
  (apply wpMildF_const; (focus (intro wm hm; have hrw := fun p h => Go.RowKit.Below.cell (p := p) hm h; go_simp; exact rfl)); simp only [List.cons_append, List.nil_append])
  (apply wpMildF_const; (focus (intro wm hm; have hrw := fun p h => Go.RowKit.Below.cell (p := p) hm h; go_simp; exact rfl)); simp only [List.cons_append, List.nil_append])
  (apply wpMildF_const; (focus (intro wm hm; have hrw := fun p h => Go.RowKit.Below.cell (p := p) hm h; go_simp; exact rfl)); simp only [List.cons_append, List.nil_append])
  (refine wpMildF_nil ?_; intro wm hm; simp only [mildAllF, MWord.blk_at, md_off, forall_eq, forall_exists_index, and_imp, and_true, true_implies, Act.put, List.setIfInBounds_toArray, List.set_cons_succ, List.set_cons_zero, forall_eq_apply_imp_iff])
  have o1 := Vo.heap_below HO6.out hm
  have A7 := HA6.out.below hm
  have B7 := HB6.out.trans (hm.mono HB6.out.size)
  have c0 : wm.cell? ⟨w.heap.size, 0, none⟩ = some (w64 0) := by rw [cell_of_row wm w.heap.size 0 _ _ _ o1]; rfl
  have c1 : wm.cell? ⟨w.heap.size, 1, none⟩ = some (w64 0) := by rw [cell_of_row wm w.heap.size 1 _ _ _ o1]; rfl
  have c2 : wm.cell? ⟨w.heap.size, 2, none⟩ = some (w64 0) := by rw [cell_of_row wm w.heap.size 2 _ _ _ o1]; rfl
  have c3 : wm.cell? ⟨w.heap.size, 3, none⟩ = some (w64 0) := by rw [cell_of_row wm w.heap.size 3 _ _ _ o1]; rfl
  have c4 : wm.cell? ⟨w.heap.size, 4, none⟩ = some (.slice none 0 0) := by rw [cell_of_row wm w.heap.size 4 _ _ _ o1]; rfl
  have f0 : ∀ i, wm.frozen? ⟨w.heap.size, i, none⟩ = false := fun i => frozen_of_row wm w.heap.size i _ _ o1
  have lw := Vo.heap_lt o1
  have HA8 := Lib.hid A7
  have HO8 := Lib.hid o1
  have HCW2 := Lib.hid B7
  clear o1 A7 B7 n0 n1 n2 n3 ln la hm HB6 HA6 HO6 HR6
  go_wp2
  have hne : c ≠ w.heap.size := by have := HCW.out; omega
  refine bodyPost_ret (by simp [results, Tryz.results85, go_sem, c0, c1, c2, c3, c4, f0]; try rfl) rfl ?_
  refine ⟨_, rfl, ?_, ?_⟩
  · refine bw_half (t := 207) ?_ HRL.out
    unfold Bw
    rw [Below.heap_setCell _ _ _ _ hne, Below.heap_setCell _ _ _ _ hne, Below.heap_setCell _ _ _ _ hne, Below.heap_setCell _ _ _ _ hne, Below.heap_setCell _ _ _ _ hne]
    exact HA8.out
  · exact ((((HCW2.out.setCell (Nat.le_refl _) _).setCell (Nat.le_refl _) _).setCell (Nat.le_refl _) _).setCell (Nat.le_refl _) _).setCell (Nat.le_refl _) _

theorem open_ex2 (K st : Nat → Nat) (l : List UInt8) : ∃ k, (∀ i, i < 8 → st i < 18446744073709551616) → l.length = 32 → ∀ v w, Bsl w v l → Wd w 2 8 st → Wd w 6 80 K →
    Calls Tryz.prog 85 #[v] w fun e w' => ∃ sl, e = .returned (.tuple #[.agg #[w64 (lim k 0), w64 (lim k 1), w64 (lim k 2), w64 (lim k 3), sl], .int .i64 0]) ∧ Bsl w' sl ((shaN K st l 64).drop 32) ∧ Below w.heap.size w w' := by
  by_cases h : (∀ i, i < 8 → st i < 18446744073709551616) ∧ l.length = 32
  · obtain ⟨k, hk⟩ := open_ex K st l h.1 h.2
    exact ⟨k, fun _ _ => hk⟩
  · exact ⟨0, fun h1 h2 => absurd ⟨h1, h2⟩ h⟩
/-- A seed's number (none evaluates it). -/
noncomputable def openN (K st : Nat → Nat) (l : List UInt8) : Nat := Classical.choose (open_ex2 K st l)
theorem open_any (K st : Nat → Nat) (l : List UInt8) (hst : ∀ i, i < 8 → st i < 18446744073709551616) (hl : l.length = 32) (v : Value) (w : World) (hv : Bsl w v l) (hS : Wd w 2 8 st) (hK : Wd w 6 80 K) :
    Calls Tryz.prog 85 #[v] w fun e w' => ∃ sl, e = .returned (.tuple #[.agg #[w64 (lim (openN K st l) 0), w64 (lim (openN K st l) 1), w64 (lim (openN K st l) 2), w64 (lim (openN K st l) 3), sl], .int .i64 0]) ∧ Bsl w' sl ((shaN K st l 64).drop 32) ∧ Below w.heap.size w w' :=
  Classical.choose_spec (open_ex2 K st l) hst hl v w hv hS hK

/-- A number's public bytes. -/
noncomputable def pubB (k : Nat) : List UInt8 := pbytes (timX baseX baseY k) (timY baseX baseY k)
theorem pubB_length (k : Nat) : (pubB k).length = 32 := pbytes_length _ _
theorem pbytes_mild (x y : Nat) (w : World) : Calls Tryz.prog 129 #[pointV x y] w fun e w' => ∃ v, e = .returned v ∧ Below w.heap.size w w' ∧ Bsl w' v (pbytes x y) := by
  refine (pbytes_any x y w).mono ?_
  rintro e w' ⟨v, rfl, hown, hb⟩
  exact ⟨v, rfl, hb, Bsl.owns (by rw [pbytes_length]; exact hown)⟩

set_option maxHeartbeats 4000000 in
theorem public_any (k : Nat) (a : Option Addr) (n c : Nat) (w : World) :
    Calls Tryz.prog 86 #[.agg #[w64 (lim k 0), w64 (lim k 1), w64 (lim k 2), w64 (lim k 3), .slice a n c]] w fun e w' => ∃ v, e = .returned v ∧ Bsl w' v (pubB k) ∧ Below w.heap.size w w' := by
  have HT := Lib.hid (fun w => timesP_any baseX baseY k w baseX_lt baseY_lt)
  have HP := Lib.hid (fun w => pbytes_mild (timX baseX baseY k) (timY baseX baseY k) w)
  have HE : Hid (pubB k = pbytes (timX baseX baseY k) (timY baseX baseY k)) := Lib.hid rfl
  have HB := Lib.hid base_any
  generalize baseX = bx at *
  generalize baseY = bY at *
  generalize timX bx bY k = tx at *
  generalize timY bx bY k = ty at *
  generalize pbytes tx ty = pl at *
  generalize pubB k = pl2 at *
  obtain rfl := HE.out
  go_enter Tryz.func86, Tryz.ntmps86
  go_upto_region 1 with (fail)
  refine wp_start1 ?_
  intro w0 B0 hO
  have c0 : w0.cell? ⟨w.heap.size, 0, none⟩ = some (w64 (lim k 0)) := by rw [cell_of_row w0 w.heap.size 0 _ _ _ hO]; rfl
  have c1 : w0.cell? ⟨w.heap.size, 1, none⟩ = some (w64 (lim k 1)) := by rw [cell_of_row w0 w.heap.size 1 _ _ _ hO]; rfl
  have c2 : w0.cell? ⟨w.heap.size, 2, none⟩ = some (w64 (lim k 2)) := by rw [cell_of_row w0 w.heap.size 2 _ _ _ hO]; rfl
  have c3 : w0.cell? ⟨w.heap.size, 3, none⟩ = some (w64 (lim k 3)) := by rw [cell_of_row w0 w.heap.size 3 _ _ _ hO]; rfl
  have lw := Vo.heap_lt hO
  clear hO
  (refine wp_region_mildF 5 [false, false, false, false, false] (by kernel_rfl) (by kernel_rfl) ?_; simp only [List.take_succ_cons, List.take_zero, List.drop_succ_cons, List.drop_zero])
  (apply wpMildF_call; (focus (intro wm hm; have hrw := fun p h => Go.RowKit.Below.cell (p := p) hm h; go_simp; (exact Calls.mild (HB.out _)))); (focus (first | exact Go.md_stays_eq _ | (intro v w w' h hb; first | exact Bsl.below h hb | exact Sizes.stays _ _ _ h hb | (obtain ⟨c, h1, h2, h3⟩ := h; exact ⟨c, h1, h2, Vo.heap_below h3 hb⟩) | fail))); simp only [List.cons_append, List.nil_append])
  (apply wpMildF_const; (focus (intro wm hm; have hrw := fun p h => Go.RowKit.Below.cell (p := p) hm h; go_simp; exact rfl)); simp only [List.cons_append, List.nil_append])
  (apply wpMildF_const; (focus (intro wm hm; have hrw := fun p h => Go.RowKit.Below.cell (p := p) hm h; go_simp; exact rfl)); simp only [List.cons_append, List.nil_append])
  (apply wpMildF_call; (focus (intro wm hm; have hrw := fun p h => Go.RowKit.Below.cell (p := p) hm h; go_simp; (exact Calls.mild (HT.out _)))); (focus (first | exact Go.md_stays_eq _ | (intro v w w' h hb; first | exact Bsl.below h hb | exact Sizes.stays _ _ _ h hb | (obtain ⟨c, h1, h2, h3⟩ := h; exact ⟨c, h1, h2, Vo.heap_below h3 hb⟩) | fail))); simp only [List.cons_append, List.nil_append])
  (apply wpMildF_call; (focus (intro wm hm; have hrw := fun p h => Go.RowKit.Below.cell (p := p) hm h; go_simp; (exact HP.out _))); (focus (first | exact Go.md_stays_eq _ | (intro v w w' h hb; first | exact Bsl.below h hb | exact Sizes.stays _ _ _ h hb | (obtain ⟨c, h1, h2, h3⟩ := h; exact ⟨c, h1, h2, Vo.heap_below h3 hb⟩) | fail))); simp only [List.cons_append, List.nil_append])
  (refine wpMildF_nil ?_; intro wm hm; simp only [mildAllF, MWord.blk_at, md_off, forall_eq, forall_exists_index, and_imp, and_true, true_implies, Act.put, List.setIfInBounds_toArray, List.set_cons_succ, List.set_cons_zero, forall_eq_apply_imp_iff])
  intro v hv
  have B1 := B0.trans (hm.mono B0.size)
  have hzs := B1.size
  clear hm c0 c1 c2 c3 lw B0
  go_wp2
  refine bodyPost_ret (by simp [results, Tryz.results86, go_sem]; try rfl) rfl ?_
  exact ⟨_, rfl, hv, B1⟩

set_option maxHeartbeats 4000000 in
theorem signPublic_any (K st : Nat → Nat) (l : List UInt8) (hst : ∀ i, i < 8 → st i < 18446744073709551616) (hl : l.length = 32) (v : Value) (w : World) (hv : Bsl w v l) (hS : Wd w 2 8 st) (hK : Wd w 6 80 K) :
    Calls Tryz.prog 43 #[v] w fun e w' => ∃ v', e = .returned (.tuple #[v', .int .i64 0]) ∧ Bsl w' v' (pubB (openN K st l)) ∧ Below w.heap.size w w' := by
  have HO := Lib.hid (open_any K st l hst hl v w hv hS hK)
  clear hst hl hv hS hK
  generalize openN K st l = k at *
  generalize (shaN K st l 64).drop 32 = r at *
  go_enter Tryz.func43, Tryz.ntmps43
  go_wp2_with fail
  refine HO.out.mono ?_
  rintro e w1 ⟨sl, rfl, hbs, hb1⟩
  obtain ⟨a, n, c, rfl⟩ := bsl_slice hbs
  have HPB := Lib.hid (fun w => public_any k a n c w)
  clear HO hbs
  go_upto_region 2 with (fail)
  refine wp_start1 ?_
  intro w2 hb2 hO
  have B2 := hb1.trans (hb2.mono hb1.size)
  have c0 : w2.cell? ⟨w1.heap.size, 0, none⟩ = some (w64 (lim k 0)) := by rw [cell_of_row w2 w1.heap.size 0 _ _ _ hO]; rfl
  have c1 : w2.cell? ⟨w1.heap.size, 1, none⟩ = some (w64 (lim k 1)) := by rw [cell_of_row w2 w1.heap.size 1 _ _ _ hO]; rfl
  have c2 : w2.cell? ⟨w1.heap.size, 2, none⟩ = some (w64 (lim k 2)) := by rw [cell_of_row w2 w1.heap.size 2 _ _ _ hO]; rfl
  have c3 : w2.cell? ⟨w1.heap.size, 3, none⟩ = some (w64 (lim k 3)) := by rw [cell_of_row w2 w1.heap.size 3 _ _ _ hO]; rfl
  have c4 : w2.cell? ⟨w1.heap.size, 4, none⟩ = some (.slice a n c) := by rw [cell_of_row w2 w1.heap.size 4 _ _ _ hO]; rfl
  have lw := Vo.heap_lt hO
  have HB2 := Lib.hid B2
  clear hO hb1 hb2 B2
  go_wp2_with fail
  refine (HPB.out _).mono ?_
  rintro e w3 ⟨v', rfl, hbp, hb3⟩
  have B3 := HB2.out.trans (hb3.mono HB2.out.size)
  have hzs := B3.size
  clear hb3 HB2 c0 c1 c2 c3 c4 lw HPB
  go_wp2
  refine bodyPost_ret (by simp [results, Tryz.results43, go_sem]; try rfl) rfl ?_
  exact ⟨_, rfl, hbp, B3⟩
end Go.Proofs.YtlgghcffmnofdaaGreatDoor.Sh
