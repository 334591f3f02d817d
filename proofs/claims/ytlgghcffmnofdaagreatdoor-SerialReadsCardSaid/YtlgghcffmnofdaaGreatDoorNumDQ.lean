/-
  The walk of residue.product.
-/
import Derived.Test.YtlgghcffmnofdaaGreatDoorNumAll

namespace Go.Proofs.YtlgghcffmnofdaaGreatDoor.Nu
open Go Go.RowKit Go.Proofs.YtlgghcffmnofdaaGreatDoor.Cn
set_option maxRecDepth 100000

/-- A wide number as a value. -/
abbrev wideV (n : Nat) : Value := .agg #[w64 (lim n 0), w64 (lim n 1), w64 (lim n 2), w64 (lim n 3), w64 (lim n 4), w64 (lim n 5), w64 (lim n 6), w64 (lim n 7)]
abbrev zero8 : Obj := .cells #[.int .u64 0, .int .u64 0, .int .u64 0, .int .u64 0, .int .u64 0, .int .u64 0, .int .u64 0, .int .u64 0] 320
theorem wd_zero8 {w : World} {b : Nat} {f : Nat → Nat} (h : w.heap[b]? = some zero8) (hf : ∀ i, i < 8 → f i = 0) : Wd w b 8 f := Wd.row h (by
  intro i hi
  rw [hf i hi]
  obtain rfl | rfl | rfl | rfl | rfl | rfl | rfl | rfl : i = 0 ∨ i = 1 ∨ i = 2 ∨ i = 3 ∨ i = 4 ∨ i = 5 ∨ i = 6 ∨ i = 7 := by omega
  all_goals rfl)

theorem index_num (b i : Nat) (hi : i < 4) (w : World) : (Instr.index 150 (numV b) (.int .i64 i)).run Tryz.prog w = .ok (w64 (lim b i)) w := by
  obtain rfl | rfl | rfl | rfl : i = 0 ∨ i = 1 ∨ i = 2 ∨ i = 3 := by omega
  all_goals kernel_rfl

def prm (a b i k j : Nat) : Nat := if i ≤ j ∧ j < i + k then lim (prd a b (i + 1)) j else lim (prd a b i) j

theorem prm_step (a b i k : Nat) : ∀ j, j < 8 → prm a b i (k + 1) j = if j = i + k then lim (prd a b (i + 1)) (i + k) else prm a b i k j := by
  intro j _
  unfold prm
  by_cases h : j = i + k
  · subst h
    rw [if_pos ⟨by omega, by omega⟩, if_pos rfl]
  · rw [if_neg h]
    by_cases h2 : i ≤ j ∧ j < i + k
    · rw [if_pos h2, if_pos ⟨h2.1, by omega⟩]
    · rw [if_neg h2, if_neg (by omega)]
theorem prm_top (a b i : Nat) (ha : a < 2 ^ 256) : ∀ j, j < 8 → lim (prd a b (i + 1)) j = if j = i + 4 then lim (prd a b (i + 1)) (i + 4) else prm a b i 4 j := by
  intro j hj
  by_cases h : j = i + 4
  · subst h; rw [if_pos rfl]
  · rw [if_neg h]
    unfold prm
    by_cases h2 : i ≤ j ∧ j < i + 4
    · rw [if_pos h2]
    · rw [if_neg h2]
      by_cases h3 : j < i
      · exact prd_low a b i j h3
      · rw [prd_zero a b (i + 1) j ha (by omega), prd_zero a b i j ha (by omega)]

structure DRnd (w : World) (a b : Nat) (f : Nat → Nat) (wr : World) : Prop where
  bel : Below w.heap.size w wr
  ra : Wd wr w.heap.size 4 (lim a)
  rz : Wd wr (w.heap.size + 2) 8 (fun _ => 0)
  ro : Wd wr (w.heap.size + 3) 8 f
theorem DRnd.below {w wr w' : World} {a b : Nat} {f : Nat → Nat} (h : DRnd w a b f wr) (hb : Below wr.heap.size wr w') : DRnd w a b f w' :=
  ⟨h.bel.trans (hb.mono h.bel.size), h.ra.below hb, h.rz.below hb, h.ro.below hb⟩
theorem DRnd.set {w wr : World} {a b : Nat} {f g : Nat → Nat} {j : Nat} (h : DRnd w a b f wr) (hj : j < 8) (v : Nat) (hg : ∀ i, i < 8 → g i = if i = j then v else f i) : DRnd w a b g (wr.setCell ⟨w.heap.size + 3, j, none⟩ (w64 v)) :=
  ⟨h.bel.setCell (by simp) _, h.ra.far _ (by omega), h.rz.far _ (by omega), h.ro.set hj v hg⟩

set_option maxHeartbeats 8000000 in
theorem product_any (a b : Nat) (w : World) (ha : a < 2 ^ 256) (hb : b < 2 ^ 256) :
    Calls Tryz.prog 230 #[numV a, numV b] w fun e w' => e = .returned (wideV (a * b)) ∧ Below w.heap.size w w' := by
  have HP := Lib.hid (prd_four a b hb)
  have HA := Lib.hid ha
  clear ha hb
  go_enter Tryz.func230, Tryz.ntmps230
  go_wp2_with fail
  go_loopw [13] (fun i wr => ∃ k : Nat, k ≤ 4 ∧ i = .int .i64 k ∧ DRnd w a b (lim (prd a b k)) wr) (fun i _ => 4 - (intOf i).toNat)
  case atStart =>
    refine ⟨0, by omega, rfl, ?_, ?_, ?_, ?_⟩
    · go_grown
    · exact (((wd_row (heap_alloc_new w _)).below ((Below.refl _ _).alloc (Nat.le_refl _) (row4 b))).below ((Below.refl _ _).alloc (Nat.le_refl _) zero8)).below ((Below.refl _ _).alloc (Nat.le_refl _) zero8)
    · have := (wd_zero8 (f := fun _ => 0) (heap_alloc_new ((w.alloc (row4 a)).alloc (row4 b)) zero8) (fun _ _ => rfl)).below ((Below.refl _ _).alloc (Nat.le_refl _) zero8)
      simpa using this
    · have := wd_zero8 (f := lim (prd a b 0)) (heap_alloc_new (((w.alloc (row4 a)).alloc (row4 b)).alloc zero8) zero8) (fun i _ => by rw [prd_first]; simp [lim])
      simpa using this
  case round =>
    obtain ⟨i, hi, rfl, RN⟩ := hrel
    by_cases hil : i < 4
    · have hidx := index_num b i hil
      have a0 := RN.ra.at_ 0 (by omega)
      have a1 := RN.ra.at_ 1 (by omega)
      have a2 := RN.ra.at_ 2 (by omega)
      have a3 := RN.ra.at_ 3 (by omega)
      have la := RN.ra.lt
      have hi0 : (0 : Int) ≤ (i : Int) := by omega
      have hi4 : decide ((i : Int) < 4) = true := decide_eq_true (by omega)
      have HRN := Lib.hid RN
      clear RN
      go_wp2_with fail
      refine (times_any a (lim b i) _ HA.out (lim_lt _ _)).mono ?_
      rintro e w1 ⟨rfl, hb1⟩
      rw [← mca_four a (lim b i) HA.out]
      have RN1 := HRN.out.below hb1
      have hba := (Below.refl w1.heap.size w1).alloc (Nat.le_refl _) (row4 (a * lim b i))
      have RN2 := RN1.below hba
      have rr := wd_row (heap_alloc_new w1 (row4 (a * lim b i)))
      have hr : w.heap.size + 3 < w1.heap.size := RN1.ro.lt
      generalize hrb : w1.heap.size = r at *
      have HN2 := Lib.hid RN2
      have HR := Lib.hid rr
      have HRB := Lib.hid hrb
      clear RN1 RN2 hb1 hba HRN a0 a1 a2 a3 la hidx rr
      go_wp2_with fail
      go_loopw [10, 23] (fun c x wx => ∃ k : Nat, k ≤ 4 ∧ x = .int .i64 k ∧ c = w64 (car (prd a b i / 2 ^ (64 * i)) (a * lim b i) k) ∧ DRnd w a b (prm a b i k) wx ∧ Wd wx r 4 (lim (a * lim b i))) (fun _ x _ => 4 - (intOf x).toNat)
      case atStart =>
        refine ⟨0, by omega, rfl, by rw [car_zero]; rfl, ?_, HR.out⟩
        have e : prm a b i 0 = lim (prd a b i) := by
          funext j
          unfold prm
          rw [if_neg (by omega)]
        rw [e]
        exact HN2.out
      case round =>
        obtain ⟨k, hk, rfl, rfl, RN, HW⟩ := hrel
        clear HN2 HR HRB hrb
        by_cases hkl : k < 4
        · have hO := prd_high a b i HA.out
          have e0 : prm a b i k (i + k) = lim (prd a b i / 2 ^ (64 * i)) k := by rw [lim_div]; unfold prm; rw [if_neg (by omega)]
          have c0 : wr.cell? ⟨w.heap.size + 1 + 1 + 1, i + k, none⟩ = some (w64 (lim (prd a b i / 2 ^ (64 * i)) k)) := by rw [← e0]; exact RN.ro.at_ (i + k) (by omega)
          have c1 : wr.cell? ⟨r, k, none⟩ = some (w64 (lim (a * lim b i) k)) := HW.at_ k hkl
          have hadd := add64w (lim (prd a b i / 2 ^ (64 * i)) k) (lim (a * lim b i) k) (car (prd a b i / 2 ^ (64 * i)) (a * lim b i) k) (car_le _ _ _)
          have lo : w.heap.size + 1 + 1 + 1 < wr.heap.size := RN.ro.lt
          have lr := HW.lt
          have fo : ∀ j, wr.frozen? ⟨w.heap.size + 1 + 1 + 1, j, none⟩ = false := RN.ro.thaw
          have hk0 : (0 : Int) ≤ (k : Int) := by omega
          have hk4 : decide ((k : Int) < 4) = true := decide_eq_true (by omega)
          have hk5 : (k : Int) < 4 := by omega
          have hik0 : (0 : Int) ≤ (i : Int) + (k : Int) := by omega
          have hik8 : (i : Int) + (k : Int) < 8 := by omega
          have hikn : ((i : Int) + (k : Int)).toNat = i + k := by omega
          have hk1 : IntKind.i64.wrap ((k : Int) + 1) = (k : Int) + 1 := by rw [IntKind.wrap_i64]; omega
          have hik : IntKind.i64.wrap ((i : Int) + (k : Int)) = (i : Int) + (k : Int) := by rw [IntKind.wrap_i64]; omega
          have HRN := Lib.hid RN
          have HHW := Lib.hid HW
          clear RN HW hO e0
          go_wp2_with fail
          go_region_with (fail)
          all_goals go_wp2_with fail
          all_goals
            rw [show addl (lim (prd a b i / 2 ^ (64 * i)) k) (lim (a * lim b i) k) (car (prd a b i / 2 ^ (64 * i)) (a * lim b i) k) = lim (prd a b (i + 1)) (i + k) from (plus_lim _ _ _).trans (prd_mid a b i k),
              show addh (lim (prd a b i / 2 ^ (64 * i)) k) (lim (a * lim b i) k) (car (prd a b i / 2 ^ (64 * i)) (a * lim b i) k) = car (prd a b i / 2 ^ (64 * i)) (a * lim b i) (k + 1) from plus_car _ _ _]
            exact ⟨⟨k + 1, by omega, by simp, rfl, (HRN.out.set (j := i + k) (by omega) _ (prm_step a b i k)).below ((Below.refl _ _).drew), (HHW.out.far _ (by omega)).below ((Below.refl _ _).drew)⟩, by simp [intOf]; omega⟩
        · obtain rfl : k = 4 := by omega
          have HT := Lib.hid (prd_top a b i HA.out)
          have lo : w.heap.size + 1 + 1 + 1 < wr.heap.size := RN.ro.lt
          have fo : ∀ j, wr.frozen? ⟨w.heap.size + 1 + 1 + 1, j, none⟩ = false := RN.ro.thaw
          have c0 : wr.cell? ⟨w.heap.size + 1 + 1 + 1, i + 4, none⟩ = some (w64 (prm a b i 4 (i + 4))) := RN.ro.at_ (i + 4) (by omega)
          have hi40 : (0 : Int) ≤ (i : Int) + 4 := by omega
          have hi48 : (i : Int) + 4 < 8 := by omega
          have hi4n : ((i : Int) + 4).toNat = i + 4 := by omega
          have hi4w : IntKind.i64.wrap ((i : Int) + 4) = (i : Int) + 4 := by rw [IntKind.wrap_i64]; omega
          have hi1 : IntKind.i64.wrap ((i : Int) + 1) = (i : Int) + 1 := by rw [IntKind.wrap_i64]; omega
          have hw : IntKind.u64.wrap (((mca a (lim b i) 4 : Nat) : Int) + ((car (prd a b i / 2 ^ (64 * i)) (a * lim b i) 4 : Nat) : Int)) = ((lim (prd a b (i + 1)) (i + 4) : Nat) : Int) := by
            obtain ⟨e, h1⟩ := HT.out
            rw [wrap_u64, ← e]
            omega
          have HRN := Lib.hid RN
          clear RN HW
          go_wp2_with fail
          go_roundw
          case rel => exact ⟨i + 1, by omega, by simp, HRN.out.set (j := i + 4) (by omega) _ (prm_top a b i HA.out)⟩
          case measure => simp [intOf]; omega
    · obtain rfl : i = 4 := by omega
      rw [HP.out] at RN
      have a0 := RN.ro.at_ 0 (by omega)
      have a1 := RN.ro.at_ 1 (by omega)
      have a2 := RN.ro.at_ 2 (by omega)
      have a3 := RN.ro.at_ 3 (by omega)
      have a4 := RN.ro.at_ 4 (by omega)
      have a5 := RN.ro.at_ 5 (by omega)
      have a6 := RN.ro.at_ 6 (by omega)
      have a7 := RN.ro.at_ 7 (by omega)
      have o0 := RN.rz.at_ 0 (by omega)
      have o1 := RN.rz.at_ 1 (by omega)
      have o2 := RN.rz.at_ 2 (by omega)
      have o3 := RN.rz.at_ 3 (by omega)
      have o4 := RN.rz.at_ 4 (by omega)
      have o5 := RN.rz.at_ 5 (by omega)
      have o6 := RN.rz.at_ 6 (by omega)
      have o7 := RN.rz.at_ 7 (by omega)
      have fo := RN.rz.thaw
      have la := RN.ro.lt
      have lo := RN.rz.lt
      have bel := RN.bel
      have hz := bel.size
      clear RN
      go_wp2
      refine bodyPost_ret (by simp [results, Tryz.results230, go_sem, o0, o1, o2, o3, o4, o5, o6, o7]; try rfl) rfl ?_
      exact ⟨rfl, by go_grown⟩
end Go.Proofs.YtlgghcffmnofdaaGreatDoor.Nu
