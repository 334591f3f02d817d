/-
  The walks of residue: Inverse, Sub.
-/
import Derived.Deep.DeepCutAuto
import Derived.Test.YtlgghcffmnofdaaGreatDoorNumFQ

namespace Go.Proofs.YtlgghcffmnofdaaGreatDoor.Nu
open Go Go.RowKit Go.Proofs.YtlgghcffmnofdaaGreatDoor.Cn
set_option linter.unusedSimpArgs false
set_option maxRecDepth 100000

theorem num2 : numV 2 = .agg #[.int .u64 2, .int .u64 0, .int .u64 0, .int .u64 0] := by unfold numV w64; simp [lim]
theorem num1 : numV 1 = .agg #[.int .u64 1, .int .u64 0, .int .u64 0, .int .u64 0] := by unfold numV w64; simp [lim]
theorem num0 : numV 0 = .agg #[.int .u64 0, .int .u64 0, .int .u64 0, .int .u64 0] := by unfold numV w64; simp [lim]
/-- What a residue's inverse is: a power. -/
def pm2 : Nat := 57896044618658097711785492504343953926634992332820282019728792003956564819947
def invN (a : Nat) : Nat := powN a pm2
theorem invN_lt (a : Nat) : invN a < 2 ^ 256 := powN_lt _ _
theorem minus2 (w : World) : Calls Tryz.prog 154 #[numV pp, .agg #[.int .u64 2, .int .u64 0, .int .u64 0, .int .u64 0]] w fun e w' => e = .returned (.tuple #[numV pm2, w64 (lessN pp 2)]) ∧ Below w.heap.size w w' := by
  have h := minus_any pp 2 w (by decide) (by decide)
  rw [num2, show 2 ^ 256 + pp - 2 = 2 ^ 256 + pm2 by decide, numV_over] at h
  exact h

theorem inverse_any (a : Nat) (w : World) (ha : a < 2 ^ 256) :
    Calls Tryz.prog 157 #[numV a] w fun e w' => e = .returned (numV (invN a)) ∧ Below w.heap.size w w' := by
  have HP : Hid (∀ w, Calls Tryz.prog 203 #[numV a, numV pm2] w fun e w' => e = .returned (numV (invN a)) ∧ Below w.heap.size w w') := Lib.hid (fun w => power_any a pm2 w ha (by decide))
  clear ha
  go_enter Tryz.func157, Tryz.ntmps157
  go_wp2_with fail
  refine (prime_any _).mono ?_
  rintro e w1 ⟨rfl, hb1⟩
  have bel0 := ((Below.refl w.heap.size w).alloc (Nat.le_refl _) (row4 a)).alloc (by simp) zero4
  have bel1 := bel0.trans (hb1.mono bel0.size)
  have A1 := ((wd_row (heap_alloc_new w (row4 a))).below ((Below.refl _ _).alloc (Nat.le_refl _) zero4)).below hb1
  have O1 := (wd_zero (heap_alloc_new (w.alloc (row4 a)) zero4)).below hb1
  rw [show (w.alloc (row4 a)).heap.size = w.heap.size + 1 by simp] at O1
  clear bel0 hb1
  go_wp2_with fail
  refine (minus2 _).mono ?_
  rintro e w2 ⟨rfl, hb2⟩
  have bel2 := bel1.trans (hb2.mono bel1.size)
  have hba := (Below.refl w2.heap.size w2).alloc (Nat.le_refl _) (row4 pm2)
  have A2 := (A1.below hb2).below hba
  have O2 := (O1.below hb2).below hba
  have bel3 := bel2.trans (hba.mono bel2.size)
  have A2' := A1.below hb2
  have a0 := A2'.at_ 0 (by omega)
  have a1 := A2'.at_ 1 (by omega)
  have a2 := A2'.at_ 2 (by omega)
  have a3 := A2'.at_ 3 (by omega)
  have la := A2'.lt
  clear bel1 hb2 A1 O1 A2 A2' hba bel2
  go_wp2_with fail
  refine (HP.out _).mono ?_
  rintro e w3 ⟨rfl, hb3⟩
  have O3 := O2.below hb3
  have o0 := O3.at_ 0 (by omega)
  have o1 := O3.at_ 1 (by omega)
  have o2 := O3.at_ 2 (by omega)
  have o3 := O3.at_ 3 (by omega)
  have fo := O3.thaw
  have lo := O3.lt
  have bel := bel3.trans (hb3.mono bel3.size)
  have hzs := bel.size
  clear bel3 hb3 O2 O3 a0 a1 a2 a3 la
  go_wp2
  refine bodyPost_ret (by simp [results, Tryz.results157, go_sem, o0, o1, o2, o3]; try rfl) rfl ?_
  exact ⟨rfl, by go_grown⟩

/-- The difference of two residues. -/
def lessP (b : Nat) : Nat := pp - b % pp
def subN (a b : Nat) : Nat := (a % pp + lessP b % pp) % pp
theorem subN_lt (a b : Nat) : subN a b < 2 ^ 256 := Nat.lt_trans (Nat.mod_lt _ (by decide)) (by decide)
theorem lessP_lt (b : Nat) : lessP b < 2 ^ 256 := Nat.lt_of_le_of_lt (Nat.sub_le _ _) (by decide)
theorem mod_lt2 (b : Nat) : b % pp < 2 ^ 256 := Nat.lt_trans (Nat.mod_lt _ (by decide)) (by decide)
theorem minusP (b : Nat) (w : World) : Calls Tryz.prog 154 #[numV pp, numV (b % pp)] w fun e w' => e = .returned (.tuple #[numV (lessP b), w64 (lessN pp (b % pp))]) ∧ Below w.heap.size w w' := by
  have h := minus_any pp (b % pp) w (by decide) (mod_lt2 b)
  have hb : b % pp < pp := Nat.mod_lt _ (by decide)
  rw [show 2 ^ 256 + pp - b % pp = 2 ^ 256 + lessP b by unfold lessP; omega, numV_over] at h
  exact h

structure BRnd (w : World) (a b : Nat) (wr : World) : Prop where
  bel : Below w.heap.size w wr
  ra : Wd wr w.heap.size 4 (lim a)
  rb : Wd wr (w.heap.size + 1) 4 (lim b)
  ro : Wd wr (w.heap.size + 2) 4 (fun _ => 0)
theorem BRnd.below {w wr w' : World} {a b : Nat} (h : BRnd w a b wr) (hb : Below wr.heap.size wr w') : BRnd w a b w' :=
  ⟨h.bel.trans (hb.mono h.bel.size), h.ra.below hb, h.rb.below hb, h.ro.below hb⟩
theorem BRnd.first (w : World) (a b : Nat) : BRnd w a b (((w.alloc (row4 a)).alloc (row4 b)).alloc zero4) := by
  refine ⟨(((Below.refl _ _).alloc (Nat.le_refl _) _).alloc (by simp) _).alloc (by simp; omega) _, ?_, ?_, ?_⟩
  · exact ((wd_row (heap_alloc_new w (row4 a))).below ((Below.refl _ _).alloc (Nat.le_refl _) (row4 b))).below ((Below.refl _ _).alloc (Nat.le_refl _) zero4)
  · have := (wd_row (heap_alloc_new (w.alloc (row4 a)) (row4 b))).below ((Below.refl _ _).alloc (Nat.le_refl _) zero4)
    simpa using this
  · have := wd_zero (heap_alloc_new ((w.alloc (row4 a)).alloc (row4 b)) zero4)
    simpa using this

theorem BRnd.far {w wr : World} {a b : Nat} (h : BRnd w a b wr) {p n : Nat} (hp : w.heap.size + 2 < p) : BRnd w a b ((((wr.setCell ⟨p, 0, none⟩ (w64 (lim n 0))).setCell ⟨p, 1, none⟩ (w64 (lim n 1))).setCell ⟨p, 2, none⟩ (w64 (lim n 2))).setCell ⟨p, 3, none⟩ (w64 (lim n 3))) :=
  ⟨bel_all h.bel (by omega), (((h.ra.far _ (by omega)).far _ (by omega)).far _ (by omega)).far _ (by omega), (((h.rb.far _ (by omega)).far _ (by omega)).far _ (by omega)).far _ (by omega), (((h.ro.far _ (by omega)).far _ (by omega)).far _ (by omega)).far _ (by omega)⟩

set_option maxHeartbeats 16000000 in
theorem sub_any (a b : Nat) (w : World) (ha : a < 2 ^ 256) (hb : b < 2 ^ 256) :
    Calls Tryz.prog 194 #[numV a, numV b] w fun e w' => e = .returned (numV (subN a b)) ∧ Below w.heap.size w w' := by
  have HA := Lib.hid (fun w => small_any a w ha)
  have HB := Lib.hid (fun w => small_any b w hb)
  clear ha hb
  have HF := Lib.hid (BRnd.first w a b)
  go_enter Tryz.func194, Tryz.ntmps194
  go_wp2_with fail
  generalize hw0 : ((w.alloc (row4 a)).alloc (row4 b)).alloc zero4 = w0 at *
  have b0 := HF.out.rb.at_ 0 (by omega)
  have b1 := HF.out.rb.at_ 1 (by omega)
  have b2 := HF.out.rb.at_ 2 (by omega)
  have b3 := HF.out.rb.at_ 3 (by omega)
  have lb := HF.out.rb.lt
  have l0 := HF.out.ro.lt
  clear hw0
  go_cut [5] (fun s5 wx => ∃ p : Nat, s5 = .pointer (some ⟨p, 0, none⟩) ∧ BRnd w a b wx ∧ Wd wx p 4 (lim (lessP b)))
  case first =>
    go_region_with (first
      | (refine (prime_any _).mono ?_; rintro e w6 ⟨rfl, hb⟩; have HF := Lib.hid (HF.out.below (Below.trans (by go_grown) (hb.mono (by simp)))); have l0 := HF.out.ro.lt; (first | (have HQ := Lib.hid ((wd_zero (heap_alloc_new _ zero4)).below hb)) | (have HQ := Lib.hid ((wd_zero (heap_alloc_new _ zero4)).below (undrew hb))) | (have HQ := Lib.hid (HQ.out.below hb)) | (have HQ := Lib.hid (HQ.out.below (undrew hb))) | skip); have b0 := HF.out.rb.at_ 0 (by omega); have b1 := HF.out.rb.at_ 1 (by omega); have b2 := HF.out.rb.at_ 2 (by omega); have b3 := HF.out.rb.at_ 3 (by omega); have lb := HF.out.rb.lt)
      | (refine (HB.out _).mono ?_; rintro e w7 ⟨rfl, hb⟩; have HF := Lib.hid (HF.out.below (Below.trans (by go_grown) (hb.mono (by simp)))); have l0 := HF.out.ro.lt; (first | (have HQ := Lib.hid ((wd_zero (heap_alloc_new _ zero4)).below hb)) | (have HQ := Lib.hid ((wd_zero (heap_alloc_new _ zero4)).below (undrew hb))) | (have HQ := Lib.hid (HQ.out.below hb)) | (have HQ := Lib.hid (HQ.out.below (undrew hb))) | skip); have b0 := HF.out.rb.at_ 0 (by omega); have b1 := HF.out.rb.at_ 1 (by omega); have b2 := HF.out.rb.at_ 2 (by omega); have b3 := HF.out.rb.at_ 3 (by omega); have lb := HF.out.rb.lt)
      | (refine (minusP b _).mono ?_; rintro e w8 ⟨rfl, hb⟩; have HF := Lib.hid (HF.out.below (Below.trans (by go_grown) (hb.mono (by simp)))); have l0 := HF.out.ro.lt; (first | (have HQ := Lib.hid ((wd_zero (heap_alloc_new _ zero4)).below hb)) | (have HQ := Lib.hid ((wd_zero (heap_alloc_new _ zero4)).below (undrew hb))) | (have HQ := Lib.hid (HQ.out.below hb)) | (have HQ := Lib.hid (HQ.out.below (undrew hb))) | skip); have b0 := HF.out.rb.at_ 0 (by omega); have b1 := HF.out.rb.at_ 1 (by omega); have b2 := HF.out.rb.at_ 2 (by omega); have b3 := HF.out.rb.at_ 3 (by omega); have lb := HF.out.rb.lt; (first | (have p0 := HQ.out.at_ 0 (by omega); have p1 := HQ.out.at_ 1 (by omega); have p2 := HQ.out.at_ 2 (by omega); have p3 := HQ.out.at_ 3 (by omega); have lp := HQ.out.lt; have fp := HQ.out.thaw) | skip)))
    all_goals go_wp2_with fail
    all_goals go_meet
    all_goals first
      | exact ⟨_, rfl, HF.out.far (by omega), HQ.out.all⟩
      | exact ⟨_, rfl, HF.out.below ((Below.refl _ _).alloc (Nat.le_refl _) _), wd_row (heap_alloc_new _ _)⟩
  case rest =>
    obtain ⟨p, rfl, RN, HP⟩ := hcut
    clear HF b0 b1 b2 b3 lb l0
    have HL := Lib.hid (fun w => small_any (lessP b) w (lessP_lt b))
    have HS : Hid (∀ w, Calls Tryz.prog 227 #[numV (a % pp), numV (lessP b % pp)] w fun e w' => e = .returned (numV (subN a b)) ∧ Below w.heap.size w w') := Lib.hid (fun w => add_any (a % pp) (lessP b % pp) w (by
      have h1 : a % pp < pp := Nat.mod_lt _ (by decide)
      have h2 : lessP b % pp < pp := Nat.mod_lt _ (by decide)
      unfold pp at *
      omega))
    have a0 := RN.ra.at_ 0 (by omega)
    have a1 := RN.ra.at_ 1 (by omega)
    have a2 := RN.ra.at_ 2 (by omega)
    have a3 := RN.ra.at_ 3 (by omega)
    have la := RN.ra.lt
    have p0 := HP.at_ 0 (by omega)
    have p1 := HP.at_ 1 (by omega)
    have p2 := HP.at_ 2 (by omega)
    have p3 := HP.at_ 3 (by omega)
    have lp := HP.lt
    have HRN := Lib.hid RN
    clear RN HP
    go_wp2_with fail
    (refine wp_region_mild 5 (by kernel_rfl) (by kernel_rfl) ?_; simp only [List.take_succ_cons, List.take_zero, List.drop_succ_cons, List.drop_zero])
    (apply wpMild_const; (focus (intro wm hm; have hrw := fun p h => Go.RowKit.Below.cell (p := p) hm h; go_simp; exact rfl)); simp only [List.cons_append, List.nil_append])
    (apply wpMild_call; (focus (intro wm hm; have hrw := fun p h => Go.RowKit.Below.cell (p := p) hm h; go_simp; (exact Calls.mild (HA.out _)))); (focus (first | exact Go.md_stays_eq _ | (intro v w w' h hb; first | exact Bsl.below h hb | exact Sizes.stays _ _ _ h hb | (obtain ⟨c, h1, h2, h3⟩ := h; exact ⟨c, h1, h2, Vo.heap_below h3 hb⟩) | fail))); simp only [List.cons_append, List.nil_append])
    (apply wpMild_const; (focus (intro wm hm; have hrw := fun p h => Go.RowKit.Below.cell (p := p) hm h; go_simp; exact rfl)); simp only [List.cons_append, List.nil_append])
    (apply wpMild_call; (focus (intro wm hm; have hrw := fun p h => Go.RowKit.Below.cell (p := p) hm h; go_simp; (exact Calls.mild (HL.out _)))); (focus (first | exact Go.md_stays_eq _ | (intro v w w' h hb; first | exact Bsl.below h hb | exact Sizes.stays _ _ _ h hb | (obtain ⟨c, h1, h2, h3⟩ := h; exact ⟨c, h1, h2, Vo.heap_below h3 hb⟩) | fail))); simp only [List.cons_append, List.nil_append])
    (apply wpMild_call; (focus (intro wm hm; have hrw := fun p h => Go.RowKit.Below.cell (p := p) hm h; go_simp; (exact Calls.mild (HS.out _)))); (focus (first | exact Go.md_stays_eq _ | (intro v w w' h hb; first | exact Bsl.below h hb | exact Sizes.stays _ _ _ h hb | (obtain ⟨c, h1, h2, h3⟩ := h; exact ⟨c, h1, h2, Vo.heap_below h3 hb⟩) | fail))); simp only [List.cons_append, List.nil_append])
    (refine wpMild_nil ?_; intro wm hm; simp only [mildAll, forall_eq, forall_exists_index, and_imp, Act.put, List.setIfInBounds_toArray, List.set_cons_succ, List.set_cons_zero, forall_eq_apply_imp_iff])
    have RNm := HRN.out.below hm
    have o0 := RNm.ro.at_ 0 (by omega)
    have o1 := RNm.ro.at_ 1 (by omega)
    have o2 := RNm.ro.at_ 2 (by omega)
    have o3 := RNm.ro.at_ 3 (by omega)
    have fo := RNm.ro.thaw
    have lo := RNm.ro.lt
    have bel := RNm.bel
    have hzs := bel.size
    clear hm a0 a1 a2 a3 la p0 p1 p2 p3 lp HRN RNm
    go_wp2
    refine bodyPost_ret (by simp [results, Tryz.results194, go_sem, o0, o1, o2, o3]; try rfl) rfl ?_
    exact ⟨rfl, by go_grown⟩
end Go.Proofs.YtlgghcffmnofdaaGreatDoor.Nu
