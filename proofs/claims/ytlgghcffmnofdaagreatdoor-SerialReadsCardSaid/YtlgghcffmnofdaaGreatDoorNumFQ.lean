/-
  The walks of residue: bit, Power.
-/
import Derived.Test.YtlgghcffmnofdaaGreatDoorNumEQ

namespace Go.Proofs.YtlgghcffmnofdaaGreatDoor.Nu
open Go Go.RowKit Go.Proofs.YtlgghcffmnofdaaGreatDoor.Cn
set_option maxRecDepth 100000

def bitN (n i : Nat) : Nat := n / 2 ^ i % 2
theorem lim_bit (n i : Nat) : lim n (i / 64) / 2 ^ (i % 64) % 2 = bitN n i := by
  unfold lim bitN
  have e : n / 2 ^ i = n / 2 ^ (64 * (i / 64)) / 2 ^ (i % 64) := by rw [Nat.div_div_eq_div_mul, ← Nat.pow_add, Nat.div_add_mod]
  rw [e]
  generalize n / 2 ^ (64 * (i / 64)) = m
  have hk : i % 64 < 64 := Nat.mod_lt _ (by decide)
  generalize i % 64 = k at *
  have : (2 : Nat) ^ 64 = 2 ^ k * (2 * 2 ^ (63 - k)) := by rw [← Nat.pow_succ', ← Nat.pow_add]; congr 1; omega
  rw [this, Nat.mod_mul_right_div_self, Nat.mod_mul_right_mod]

theorem wraps_u64 (n : Int) (h0 : 0 ≤ n) (h1 : n < 2 ^ 64) : IntKind.u64.wrap n = n := by rw [wrap_u64]; omega
theorem u64_and1 (x : Int) (h0 : 0 ≤ x) (h1 : x < 2 ^ 64) : bits .and .u64 x 1 = x % 2 := bits_mask .u64 64 (by decide) wraps_u64 1 (by decide) x h0 h1
theorem and1_nat (x : Nat) (h1 : x < 18446744073709551616) : bits .and .u64 (x : Int) 1 = ((x % 2 : Nat) : Int) := by
  rw [u64_and1 _ (by omega) (by omega)]
  omega

theorem bit_any (n i : Nat) (w : World) (hi : i < 256) :
    Calls Tryz.prog 232 #[numV n, .int .i64 i] w fun e w' => e = .returned (w64 (bitN n i)) ∧ Below w.heap.size w w' := by
  have h0 : (0 : Int) ≤ (i : Int) := by omega
  have hq : (i : Int).tdiv 64 = ((i / 64 : Nat) : Int) := by rw [Int.tdiv_eq_ediv_of_nonneg h0]; omega
  have hr : (i : Int).tmod 64 = ((i % 64 : Nat) : Int) := by rw [Int.tmod_eq_emod_of_nonneg h0]; omega
  have hq4 : (i / 64 : Nat) < 4 := by omega
  have hq0 : (0 : Int) ≤ ((i / 64 : Nat) : Int) := by omega
  have hq5 : ((i / 64 : Nat) : Int) < 4 := by omega
  have hr0 : (0 : Int) ≤ ((i % 64 : Nat) : Int) := by omega
  have hr5 : ((i % 64 : Nat) : Int) < 64 := by omega
  have HB := Lib.hid (lim_bit n i)
  have c0 : (w.alloc (row4 n)).cell? ⟨w.heap.size, i / 64, none⟩ = some (w64 (lim n (i / 64))) := (wd_row (heap_alloc_new w _)).at_ _ hq4
  clear hi hq4
  generalize i / 64 = q at *
  generalize i % 64 = r at *
  go_enter Tryz.func232, Tryz.ntmps232
  go_wp2_with fail
  go_returns
  refine ⟨?_, by go_grown⟩
  have e : (((lim n q : Nat) : Int) / 2 ^ r) = ((lim n q / 2 ^ r : Nat) : Int) := by push_cast; rfl
  rw [e, and1_nat _ (Nat.lt_of_le_of_lt (Nat.div_le_self _ _) (lim_lt _ _)), HB.out]
  rfl

/-- The product of two residues. -/
def mulN (a b : Nat) : Nat := a * b % pp
theorem mulN_lt (a b : Nat) : mulN a b < 2 ^ 256 := Nat.lt_trans (Nat.mod_lt _ (by decide)) (by decide)
theorem muln_any (a b : Nat) (w : World) (ha : a < 2 ^ 256) (hb : b < 2 ^ 256) :
    Calls Tryz.prog 202 #[numV a, numV b] w fun e w' => e = .returned (numV (mulN a b)) ∧ Below w.heap.size w w' := mul_any a b w ha hb

/-- A number to a number, modulo the prime. -/
def powN (a n : Nat) : Nat := a ^ n % pp
theorem powN_lt (a n : Nat) : powN a n < 2 ^ 256 := Nat.lt_trans (Nat.mod_lt _ (by decide)) (by decide)
theorem powN_zero (a : Nat) : powN a 0 = 1 := by unfold powN; rw [Nat.pow_zero]; decide
theorem bitN_le (n i : Nat) : bitN n i ≤ 1 := by unfold bitN; omega
theorem powN_step (a n j : Nat) : (if bitN n j = 1 then powN a (n / 2 ^ (j + 1)) * powN a (n / 2 ^ (j + 1)) % pp * a % pp else powN a (n / 2 ^ (j + 1)) * powN a (n / 2 ^ (j + 1)) % pp) = powN a (n / 2 ^ j) := by
  have e : n / 2 ^ j = 2 * (n / 2 ^ (j + 1)) + bitN n j := by
    unfold bitN
    rw [Nat.pow_succ, ← Nat.div_div_eq_div_mul]
    omega
  rw [e]
  generalize n / 2 ^ (j + 1) = m
  have hb := bitN_le n j
  unfold powN
  split
  · rename_i h
    rw [h, Nat.pow_add, Nat.pow_one, Nat.mul_comm 2 m, Nat.pow_mul, Nat.pow_two, Nat.mod_mul_mod, Nat.mul_mod, ← Nat.mul_mod (a ^ m) (a ^ m), ← Nat.mul_mod]
  · rename_i h
    rw [show bitN n j = 0 by omega, Nat.add_zero, Nat.mul_comm 2 m, Nat.pow_mul, Nat.pow_two, ← Nat.mul_mod]

theorem wd_one {w : World} {b : Nat} (h : w.heap[b]? = some (Obj.cells #[Value.int IntKind.u64 1, Value.int IntKind.u64 0, Value.int IntKind.u64 0, Value.int IntKind.u64 0] 150)) : Wd w b 4 (lim 1) := Wd.row h (by
  intro i hi
  obtain rfl | rfl | rfl | rfl : i = 0 ∨ i = 1 ∨ i = 2 ∨ i = 3 := by omega
  all_goals rfl)

structure WRnd (w : World) (a n v : Nat) (wr : World) : Prop where
  bel : Below w.heap.size w wr
  ra : Wd wr w.heap.size 4 (lim a)
  rn : Wd wr (w.heap.size + 1) 4 (lim n)
  ro : Wd wr (w.heap.size + 2) 4 (fun _ => 0)
  rv : Wd wr (w.heap.size + 3) 4 (lim v)
theorem WRnd.below {w wr w' : World} {a n v : Nat} (h : WRnd w a n v wr) (hb : Below wr.heap.size wr w') : WRnd w a n v w' :=
  ⟨h.bel.trans (hb.mono h.bel.size), h.ra.below hb, h.rn.below hb, h.ro.below hb, h.rv.below hb⟩
theorem WRnd.set {w wr : World} {a n v : Nat} (h : WRnd w a n v wr) (v' : Nat) : WRnd w a n v' ((((wr.setCell ⟨w.heap.size + 3, 0, none⟩ (w64 (lim v' 0))).setCell ⟨w.heap.size + 3, 1, none⟩ (w64 (lim v' 1))).setCell ⟨w.heap.size + 3, 2, none⟩ (w64 (lim v' 2))).setCell ⟨w.heap.size + 3, 3, none⟩ (w64 (lim v' 3))) :=
  ⟨bel_all h.bel (by omega), (((h.ra.far _ (by omega)).far _ (by omega)).far _ (by omega)).far _ (by omega), (((h.rn.far _ (by omega)).far _ (by omega)).far _ (by omega)).far _ (by omega), (((h.ro.far _ (by omega)).far _ (by omega)).far _ (by omega)).far _ (by omega), h.rv.all⟩

set_option maxHeartbeats 4000000 in
theorem power_any (a n : Nat) (w : World) (ha : a < 2 ^ 256) (hn : n < 2 ^ 256) :
    Calls Tryz.prog 203 #[numV a, numV n] w fun e w' => e = .returned (numV (powN a n)) ∧ Below w.heap.size w w' := by
  have HA := Lib.hid ha
  have HN0 : Hid (powN a (n / 2 ^ 256) = 1) := Lib.hid (by rw [Nat.div_eq_of_lt hn, powN_zero])
  clear ha hn
  go_enter Tryz.func203, Tryz.ntmps203
  go_wp2_with fail
  go_loopw [6] (fun i wr => ∃ (j : Nat) (z : Int), j ≤ 256 ∧ z = (j : Int) - 1 ∧ i = .int .i64 z ∧ WRnd w a n (powN a (n / 2 ^ j)) wr) (fun i _ => (intOf i + 1).toNat)
  case atStart =>
    refine ⟨256, 255, by omega, by omega, rfl, ?_, ?_, ?_, ?_, ?_⟩
    · go_grown
    · exact (((wd_row (heap_alloc_new w (row4 a))).below ((Below.refl _ _).alloc (Nat.le_refl _) (row4 n))).below ((Below.refl _ _).alloc (Nat.le_refl _) zero4)).below ((Below.refl _ _).alloc (Nat.le_refl _) _)
    · have := ((wd_row (heap_alloc_new (w.alloc (row4 a)) (row4 n))).below ((Below.refl _ _).alloc (Nat.le_refl _) zero4)).below ((Below.refl _ _).alloc (Nat.le_refl _) (Obj.cells #[Value.int IntKind.u64 1, Value.int IntKind.u64 0, Value.int IntKind.u64 0, Value.int IntKind.u64 0] 150))
      simpa using this
    · have := (wd_zero (heap_alloc_new ((w.alloc (row4 a)).alloc (row4 n)) zero4)).below ((Below.refl _ _).alloc (Nat.le_refl _) (Obj.cells #[Value.int IntKind.u64 1, Value.int IntKind.u64 0, Value.int IntKind.u64 0, Value.int IntKind.u64 0] 150))
      simpa using this
    · have := wd_one (heap_alloc_new (((w.alloc (row4 a)).alloc (row4 n)).alloc zero4) (Obj.cells #[Value.int IntKind.u64 1, Value.int IntKind.u64 0, Value.int IntKind.u64 0, Value.int IntKind.u64 0] 150))
      rw [HN0.out]
      simpa using this
  case round =>
    obtain ⟨j, z, hj, hz, rfl, RN⟩ := hrel
    clear HN0
    by_cases hj0 : j = 0
    · obtain rfl : z = -1 := by omega
      subst hj0
      rw [Nat.pow_zero, Nat.div_one] at RN
      have v0 := RN.rv.at_ 0 (by omega)
      have v1 := RN.rv.at_ 1 (by omega)
      have v2 := RN.rv.at_ 2 (by omega)
      have v3 := RN.rv.at_ 3 (by omega)
      have o0 := RN.ro.at_ 0 (by omega)
      have o1 := RN.ro.at_ 1 (by omega)
      have o2 := RN.ro.at_ 2 (by omega)
      have o3 := RN.ro.at_ 3 (by omega)
      have lv := RN.rv.lt
      have lo := RN.ro.lt
      have fo := RN.ro.thaw
      have bel := RN.bel
      have hzs := bel.size
      clear RN hz hj
      go_wp2
      refine bodyPost_ret (by simp [results, Tryz.results203, go_sem, o0, o1, o2, o3]; try rfl) rfl ?_
      exact ⟨rfl, by go_grown⟩
    · obtain ⟨i, rfl⟩ : ∃ i, j = i + 1 := ⟨j - 1, by omega⟩
      obtain rfl : z = (i : Int) := by omega
      have hi0 : (0 : Int) ≤ (i : Int) := by omega
      have hi1 : IntKind.i64.wrap ((i : Int) - 1) = (i : Int) - 1 := by rw [IntKind.wrap_i64]; omega
      have hi256 : i < 256 := by omega
      have v0 := RN.rv.at_ 0 (by omega)
      have v1 := RN.rv.at_ 1 (by omega)
      have v2 := RN.rv.at_ 2 (by omega)
      have v3 := RN.rv.at_ 3 (by omega)
      have lv := RN.rv.lt
      have HRN := Lib.hid RN
      have HI := Lib.hid hi256
      have HS := Lib.hid (powN_step a n i)
      have HV := Lib.hid (powN_lt a (n / 2 ^ (i + 1)))
      clear RN hz hj hi256
      generalize powN a (n / 2 ^ (i + 1)) = v at *
      go_wp2_with fail
      refine (muln_any v v _ HV.out HV.out).mono ?_
      rintro e w1 ⟨rfl, hb1⟩
      have RN1 := HRN.out.below hb1
      have q0 := RN1.rv.at_ 0 (by omega)
      have q1 := RN1.rv.at_ 1 (by omega)
      have q2 := RN1.rv.at_ 2 (by omega)
      have q3 := RN1.rv.at_ 3 (by omega)
      have lq := RN1.rv.lt
      have fq := RN1.rv.thaw
      have RN2 := RN1.set (mulN v v)
      have n0 := RN1.rn.at_ 0 (by omega)
      have n1 := RN1.rn.at_ 1 (by omega)
      have n2 := RN1.rn.at_ 2 (by omega)
      have n3 := RN1.rn.at_ 3 (by omega)
      have ln := RN1.rn.lt
      have H2 := Lib.hid RN2
      clear RN1 RN2 hb1 HRN v0 v1 v2 v3 lv
      go_wp2_with fail
      refine (bit_any n i _ HI.out).mono ?_
      rintro e w2 ⟨rfl, hb2⟩
      have RN3 := H2.out.below hb2
      clear hb2 H2 q0 q1 q2 q3 lq fq n0 n1 n2 n3 ln
      by_cases hbit : bitN n i = 1
      · have hbe : (((bitN n i : Nat) : Int) == 1) = true := by rw [hbit]; rfl
        have HE : Hid (mulN (mulN v v) a = powN a (n / 2 ^ i)) := Lib.hid (by rw [← HS.out, if_pos hbit]; rfl)
        have v0 := RN3.rv.at_ 0 (by omega)
        have v1 := RN3.rv.at_ 1 (by omega)
        have v2 := RN3.rv.at_ 2 (by omega)
        have v3 := RN3.rv.at_ 3 (by omega)
        have a0 := RN3.ra.at_ 0 (by omega)
        have a1 := RN3.ra.at_ 1 (by omega)
        have a2 := RN3.ra.at_ 2 (by omega)
        have a3 := RN3.ra.at_ 3 (by omega)
        have lv := RN3.rv.lt
        have la := RN3.ra.lt
        have HRN := Lib.hid RN3
        clear RN3 hbit HS
        go_wp2_with fail
        refine (muln_any (mulN v v) a _ (mulN_lt _ _) HA.out).mono ?_
        rintro e w3 ⟨rfl, hb3⟩
        have RN4 := HRN.out.below hb3
        have q0 := RN4.rv.at_ 0 (by omega)
        have q1 := RN4.rv.at_ 1 (by omega)
        have q2 := RN4.rv.at_ 2 (by omega)
        have q3 := RN4.rv.at_ 3 (by omega)
        have lq := RN4.rv.lt
        have fq := RN4.rv.thaw
        have HR := Lib.hid (RN4.set (mulN (mulN v v) a))
        clear RN4 HRN hb3 v0 v1 v2 v3 lv a0 a1 a2 a3 la
        go_wp2_with fail
        go_roundw
        case rel => exact ⟨i, (i : Int) - 1, by have := HI.out; omega, rfl, rfl, by rw [← HE.out]; exact HR.out⟩
        case measure => simp [intOf]
      · have hbe : (((bitN n i : Nat) : Int) == 1) = false := by simp; omega
        have HE : Hid (mulN v v = powN a (n / 2 ^ i)) := Lib.hid (by rw [← HS.out, if_neg hbit]; rfl)
        have HRN := Lib.hid RN3
        clear RN3 hbit HS
        go_wp2_with fail
        go_roundw
        case rel => exact ⟨i, (i : Int) - 1, by have := HI.out; omega, rfl, rfl, by rw [← HE.out]; exact HRN.out⟩
        case measure => simp [intOf]
end Go.Proofs.YtlgghcffmnofdaaGreatDoor.Nu
