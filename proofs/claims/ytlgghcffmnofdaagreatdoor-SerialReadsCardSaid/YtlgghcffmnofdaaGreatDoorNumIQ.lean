/-
  The walks of residue: Of.
-/
import Derived.BigQuiet
import Derived.Test.YtlgghcffmnofdaaGreatDoorNumHQ

namespace Go.Proofs.YtlgghcffmnofdaaGreatDoor.Nu
open Go Go.RowKit Go.Proofs.YtlgghcffmnofdaaGreatDoor.Cn
set_option linter.unusedSimpArgs false
set_option maxRecDepth 100000

/-- The number of bytes, the lowest first. -/
def leN : List UInt8 → Nat
  | [] => 0
  | c :: r => c.toNat + 256 * leN r
theorem leN_append (l : List UInt8) (c : UInt8) : leN (l ++ [c]) = leN l + 256 ^ l.length * c.toNat := by
  induction l with
  | nil => simp [leN]
  | cons x r ih =>
    simp only [List.cons_append, leN, ih, List.length_cons, Nat.pow_succ]
    rw [Nat.mul_add, Nat.mul_comm (256 ^ r.length) 256, Nat.mul_assoc]
    omega
theorem leN_lt (l : List UInt8) : leN l < 256 ^ l.length := by
  induction l with
  | nil => simp [leN]
  | cons x r ih =>
    simp only [leN, List.length_cons, Nat.pow_succ]
    have := x.toNat_lt
    omega

def putN (v c k : Nat) : Nat := v + c * 2 ^ (8 * (k % 8))
theorem pow256 (k : Nat) : (256 : Nat) ^ k = 2 ^ (64 * (k / 8)) * 2 ^ (8 * (k % 8)) := by
  rw [show (256 : Nat) = 2 ^ 8 from rfl, ← Nat.pow_mul, ← Nat.pow_add]
  congr 1
  omega
theorem lim_high {n i m : Nat} (h : n < 2 ^ m) (hm : m ≤ 64 * i) : lim n i = 0 := by
  unfold lim
  rw [Nat.div_eq_of_lt (Nat.lt_of_lt_of_le h (Nat.pow_le_pow_right (by decide) hm))]
theorem leN_high (l : List UInt8) : leN l / 2 ^ (64 * (l.length / 8)) < 2 ^ (8 * (l.length % 8)) := by
  apply Nat.div_lt_of_lt_mul
  rw [← pow256]
  exact leN_lt l
theorem leN_step (l : List UInt8) (c : UInt8) :
    lim (leN l) (l.length / 8) < 2 ^ (8 * (l.length % 8)) ∧ (∀ i, i < 4 → lim (leN (l ++ [c])) i = if i = l.length / 8 then putN (lim (leN l) (l.length / 8)) c.toNat l.length else lim (leN l) i) := by
  have h1 := leN_high l
  have hr : 8 * (l.length % 8) ≤ 56 := by omega
  have h2 : (2 : Nat) ^ (8 * (l.length % 8)) ≤ 2 ^ 56 := Nat.pow_le_pow_right (by decide) hr
  have hlim : lim (leN l) (l.length / 8) = leN l / 2 ^ (64 * (l.length / 8)) := Nat.mod_eq_of_lt (by omega)
  refine ⟨by rw [hlim]; exact h1, fun i _ => ?_⟩
  rw [leN_append, pow256]
  split
  · rename_i e
    subst e
    unfold putN
    rw [hlim]
    unfold lim
    rw [Nat.mul_assoc, Nat.add_mul_div_left _ _ (Nat.two_pow_pos _), Nat.mul_comm (2 ^ (8 * (l.length % 8))) c.toNat]
    apply Nat.mod_eq_of_lt
    have hc := c.toNat_lt
    have h3 : c.toNat * 2 ^ (8 * (l.length % 8)) ≤ 255 * 2 ^ (8 * (l.length % 8)) := Nat.mul_le_mul_right _ (by omega)
    omega
  · rename_i e
    by_cases hi : i < l.length / 8
    · have e : (2 : Nat) ^ (64 * (l.length / 8)) = 2 ^ (64 * i) * (2 ^ 64 * 2 ^ (64 * (l.length / 8 - i - 1))) := by rw [← Nat.pow_add, ← Nat.pow_add]; congr 1; omega
      unfold lim
      rw [e, Nat.mul_assoc, Nat.mul_assoc, Nat.mul_assoc, Nat.add_mul_div_left _ _ (Nat.two_pow_pos _), Nat.add_mul_mod_self_left]
    · have h4 := leN_lt (l ++ [c])
      rw [leN_append, pow256] at h4
      have h5 := leN_lt l
      rw [show (256 : Nat) = 2 ^ 8 from rfl, ← Nat.pow_mul] at h4 h5
      rw [lim_high h4 (by simp; omega), lim_high h5 (by omega)]

theorem or_put (v x sh : Nat) (hv : v < 2 ^ sh) (hx : x < 256) (hs : sh ≤ 56) : bits .or .u64 (v : Int) (IntKind.u64.wrap (IntKind.u64.wrap (x : Int) * 2 ^ sh)) = ((v + x * 2 ^ sh : Nat) : Int) := by
  have h2 : (2 : Nat) ^ sh ≤ 2 ^ 56 := Nat.pow_le_pow_right (by decide) hs
  have h3 : x * 2 ^ sh ≤ 255 * 2 ^ sh := Nat.mul_le_mul_right _ (by omega)
  have e1 : IntKind.u64.wrap (x : Int) = (x : Int) := by rw [wrap_u64]; omega
  have e2 : (x : Int) * 2 ^ sh = ((x * 2 ^ sh : Nat) : Int) := by push_cast; rfl
  rw [e1, e2]
  have e3 : IntKind.u64.wrap ((x * 2 ^ sh : Nat) : Int) = ((x * 2 ^ sh : Nat) : Int) := by rw [wrap_u64]; omega
  rw [e3, (bits_nat .u64 64 (by decide) wraps_u64 v (x * 2 ^ sh) (by omega) (by omega)).2, Nat.or_comm, Nat.mul_comm x, ← Nat.two_pow_add_eq_or_of_lt hv, Nat.add_comm]

theorem bsl_setN {w : World} {v : Value} {l : List UInt8} {a : Addr} {m : Nat} (h : Bsl w v l) (ha : w.cell? a = some (w64 m)) (u : Value) : Bsl (w.setCell a u) v l := by
  obtain ⟨ad, cap, rfl, hle, hc⟩ := h
  refine ⟨ad, cap, rfl, hle, fun j hj => ?_⟩
  obtain ⟨b, off, rfl, h1⟩ := hc j hj
  refine ⟨b, off, rfl, ?_⟩
  rw [World.cell?_setCell_other]
  · exact h1
  · intro e
    subst e
    rw [h1] at ha
    cases ha

structure ORnd (w : World) (v : Value) (l : List UInt8) (n : Nat) (wr : World) : Prop where
  bel : Below w.heap.size w wr
  bs : Bsl wr v l
  ro : Wd wr w.heap.size 4 (fun _ => 0)
  rn : Wd wr (w.heap.size + 1) 4 (lim n)
theorem ORnd.below {w wr w' : World} {v : Value} {l : List UInt8} {n : Nat} (h : ORnd w v l n wr) (hb : Below wr.heap.size wr w') : ORnd w v l n w' :=
  ⟨h.bel.trans (hb.mono h.bel.size), h.bs.below hb, h.ro.below hb, h.rn.below hb⟩

set_option maxHeartbeats 4000000 in
theorem of_any (l : List UInt8) (v : Value) (w : World) (hv : Bsl w v l) (hl : l.length = 32) :
    Calls Tryz.prog 103 #[v] w fun e w' => e = .returned (.tuple #[numV (leN l), .int .i64 0]) ∧ Below w.heap.size w w' := by
  have HV := Lib.hid hv
  obtain ⟨ad, cap, rfl, hcap, hc⟩ := hv
  obtain ⟨b, off, rfl, hb0⟩ := hc 0 (by omega)
  have HC : Hid (∀ w', Bsl w' (.slice (some ⟨b, off, none⟩) l.length cap) l → ∀ (j : Nat) (x : UInt8), l[j]? = some x → w'.cell? ⟨b, off + j, none⟩ = some (.int .u8 x.toNat)) := Lib.hid (by
    rintro w' ⟨a', c', e, _, h⟩ j x hx
    obtain ⟨hj, rfl⟩ := List.getElem?_eq_some_iff.1 hx
    obtain ⟨b', o', rfl, h2⟩ := h j hj
    injection e with e1 _ _
    injection e1 with e1
    injection e1 with e2 e3 _
    subst e2 e3
    exact h2)
  clear hc hb0 hcap
  rw [hl] at HV HC ⊢
  have HL := Lib.hid hl
  clear hl
  go_enter Tryz.func103, Tryz.ntmps103
  go_wp2_with fail
  go_loopw [13] (fun i wr => ∃ k : Nat, k ≤ 32 ∧ i = .int .i64 k ∧ ORnd w (.slice (some ⟨b, off, none⟩) 32 cap) l (leN (l.take k)) wr) (fun i _ => 32 - (intOf i).toNat)
  case atStart =>
    refine ⟨0, by omega, rfl, ?_, ?_, ?_, ?_⟩
    · go_grown
    · exact (HV.out.below ((Below.refl _ _).alloc (Nat.le_refl _) zero4)).below ((Below.refl _ _).alloc (Nat.le_refl _) zero4)
    · exact (wd_zero (heap_alloc_new w zero4)).below ((Below.refl _ _).alloc (Nat.le_refl _) zero4)
    · have := wd_zeroN (heap_alloc_new (w.alloc zero4) zero4)
      simpa [leN] using this
  case round =>
    obtain ⟨k, hk, rfl, RN⟩ := hrel
    by_cases hkl : k < 32
    · have hkl2 : k < l.length := by rw [HL.out]; exact hkl
      obtain ⟨x, hx⟩ : ∃ x, l[k]? = some x := ⟨l[k], List.getElem?_eq_getElem hkl2⟩
      clear hkl2
      have hc := HC.out wr RN.bs k x hx
      have HX := Lib.hid hx
      clear hx
      have lb := World.block_lt_of_cell? _ _ hc
      have hk0 : (0 : Int) ≤ (k : Int) := by omega
      have hk1 : IntKind.i64.wrap ((k : Int) + 1) = (k : Int) + 1 := by rw [IntKind.wrap_i64]; omega
      have hk2 : (k : Int) < 32 := by omega
      have hq : (k : Int).tdiv 8 = ((k / 8 : Nat) : Int) := by rw [Int.tdiv_eq_ediv_of_nonneg hk0]; omega
      have hr : (k : Int).tmod 8 = ((k % 8 : Nat) : Int) := by rw [Int.tmod_eq_emod_of_nonneg hk0]; omega
      have hq4 : (k / 8 : Nat) < 4 := by omega
      have hq0 : (0 : Int) ≤ ((k / 8 : Nat) : Int) := by omega
      have hq5 : ((k / 8 : Nat) : Int) < 4 := by omega
      have c0 := RN.rn.at_ (k / 8) hq4
      have ln := RN.rn.lt
      have fn := RN.rn.thaw
      have HRN := Lib.hid RN
      clear RN
      obtain ⟨q, hqq⟩ : ∃ q, k / 8 = q := ⟨_, rfl⟩
      obtain ⟨r, hrr⟩ : ∃ r, k % 8 = r := ⟨_, rfl⟩
      have HQ := Lib.hid (And.intro hqq hrr)
      rw [hqq] at hq hq4 hq0 hq5 c0
      rw [hrr] at hr
      clear hqq hrr
      have hr0 : (0 : Int) ≤ (r : Int) := by omega
      have hqw : IntKind.i64.wrap (q : Int) = (q : Int) := by rw [IntKind.wrap_i64]; omega
      have hrw8 : IntKind.i64.wrap (r : Int) = (r : Int) := by have := HQ.out.2; rw [IntKind.wrap_i64]; omega
      have hr8 : IntKind.i64.wrap (8 * (r : Int)) = ((8 * r : Nat) : Int) := by have := HQ.out.2; rw [IntKind.wrap_i64]; omega
      have hs0 : (0 : Int) ≤ ((8 * r : Nat) : Int) := by omega
      have hs5 : ((8 * r : Nat) : Int) < 64 := by have := HQ.out.2; omega
      obtain ⟨sh, hsh⟩ : ∃ sh, 8 * r = sh := ⟨_, rfl⟩
      rw [hsh] at hr8 hs0 hs5
      have HSH := Lib.hid hsh
      clear hsh
      go_wp2_with fail
      (refine wp_region_mild 12 (by kernel_rfl) (by kernel_rfl) ?_; simp only [List.take_succ_cons, List.take_zero, List.drop_succ_cons, List.drop_zero])
      repeat (apply wpMild_const; (focus (intro wm hm; have hrw := fun p h => Go.RowKit.Below.cell (p := p) hm h; go_simp; exact rfl)); simp only [List.cons_append, List.nil_append])
      (refine wpMild_nil ?_; intro wm hm; simp only [mildAll, forall_eq, forall_exists_index, and_imp, Act.put, List.setIfInBounds_toArray, List.set_cons_succ, List.set_cons_zero, forall_eq_apply_imp_iff])
      have RNm := HRN.out.below hm
      clear hm hc lb c0 ln fn HRN
      have c0 := RNm.rn.at_ q hq4
      have ln := RNm.rn.lt
      have fn := RNm.rn.thaw
      have HRN := Lib.hid RNm
      clear RNm
      go_wp2_with fail
      go_roundw
      case rel =>
        obtain ⟨hq8, hr8'⟩ := HQ.out
        have hlen : (l.take k).length = k := by rw [List.length_take, HL.out]; omega
        obtain ⟨s1, s2⟩ := leN_step (l.take k) x
        rw [hlen, hq8, hr8', HSH.out] at s1
        rw [hlen, hq8] at s2
        have htake : l.take (k + 1) = l.take k ++ [x] := by
          rw [List.take_add_one, HX.out]; rfl
        have hput : ∀ v, putN v x.toNat k = v + x.toNat * 2 ^ sh := fun v => by unfold putN; rw [hr8', HSH.out]
        rw [or_put _ _ _ s1 x.toNat_lt (by have := HSH.out; omega)]
        refine ⟨k + 1, by omega, by simp, ?_⟩
        rw [htake]
        have R := HRN.out
        exact ⟨R.bel.setCell (by simp) _, bsl_setN R.bs (R.rn.at_ q hq4) _, R.ro.far _ (by omega), R.rn.set hq4 _ (fun i hi => by rw [s2 i hi, hput])⟩
      case measure => simp [intOf]; omega
    · obtain rfl : k = 32 := by omega
      have HT : Hid (l.take 32 = l) := Lib.hid (by rw [← HL.out, List.take_length])
      rw [HT.out] at RN
      have n0 := RN.rn.at_ 0 (by omega)
      have n1 := RN.rn.at_ 1 (by omega)
      have n2 := RN.rn.at_ 2 (by omega)
      have n3 := RN.rn.at_ 3 (by omega)
      have ln := RN.rn.lt
      have o0 := RN.ro.at_ 0 (by omega)
      have o1 := RN.ro.at_ 1 (by omega)
      have o2 := RN.ro.at_ 2 (by omega)
      have o3 := RN.ro.at_ 3 (by omega)
      have lo := RN.ro.lt
      have fo := RN.ro.thaw
      have bel := RN.bel
      have hzs := bel.size
      clear RN
      go_wp2
      refine bodyPost_ret (by simp [results, Tryz.results103, go_sem, o0, o1, o2, o3]; try rfl) rfl ?_
      exact ⟨rfl, by go_grown⟩
end Go.Proofs.YtlgghcffmnofdaaGreatDoor.Nu
