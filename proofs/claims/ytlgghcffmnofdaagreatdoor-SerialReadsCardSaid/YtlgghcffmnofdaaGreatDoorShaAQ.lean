/-
  The walks of sha: RotateLeft64, turned.
-/
import Derived.Laws.Bits64
import Derived.Test.YtlgghcffmnofdaaGreatDoorNumFQ

namespace Go.Proofs.YtlgghcffmnofdaaGreatDoor.Sh
open Go Go.RowKit Go.Proofs.YtlgghcffmnofdaaGreatDoor.Cn Go.Proofs.YtlgghcffmnofdaaGreatDoor.Nu
set_option maxRecDepth 100000

/-- A word turned to the right. -/
def rotN (x n : Nat) : Nat := x * 2 ^ (64 - n) % 18446744073709551616 ||| x / 2 ^ n
theorem rotN_lt (x n : Nat) (hx : x < 18446744073709551616) : rotN x n < 18446744073709551616 :=
  Nat.or_lt_two_pow (n := 64) (Nat.mod_lt _ (by decide)) (Nat.lt_of_le_of_lt (Nat.div_le_self _ _) hx)

theorem rot_any (x n : Nat) (w : World) (hx : x < 18446744073709551616) (h0 : 0 < n) (h64 : n < 64) :
    Calls Tryz.prog 187 #[w64 x, .int .i64 (-(n : Int))] w fun e w' => e = .returned (w64 (rotN x n)) ∧ Below w.heap.size w w' := by
  have hw : IntKind.u64.wrap (-(n : Int)) = ((18446744073709551616 - n : Nat) : Int) := by rw [wrap_u64]; omega
  have ha : bits .and .u64 ((18446744073709551616 - n : Nat) : Int) 63 = ((64 - n : Nat) : Int) := by
    have h1 := bits_mask .u64 64 (by decide) wraps_u64 6 (by decide) ((18446744073709551616 - n : Nat) : Int) (by omega) (by omega)
    rw [show ((2 : Int) ^ 6 - 1) = 63 by decide] at h1
    rw [h1]
    omega
  have hs0 : (0 : Int) ≤ ((64 - n : Nat) : Int) := by omega
  have hs1 : ((64 - n : Nat) : Int) < 64 := by omega
  have hd : IntKind.u64.wrap (64 - ((64 - n : Nat) : Int)) = (n : Int) := by rw [wrap_u64]; omega
  have hn0 : (0 : Int) ≤ (n : Int) := by omega
  have hn1 : (n : Int) < 64 := by omega
  have HX := Lib.hid hx
  clear hx h0 h64
  go_enter Tryz.func187, Tryz.ntmps187
  go_wp2_with fail
  refine bodyPost_ret (by simp [results, Tryz.results187, go_sem]; try rfl) rfl ?_
  refine ⟨?_, by go_grown⟩
  have e1 : IntKind.u64.wrap ((x : Int) * 2 ^ (64 - n)) = ((x * 2 ^ (64 - n) % 18446744073709551616 : Nat) : Int) := by
    rw [show ((x : Int) * 2 ^ (64 - n)) = ((x * 2 ^ (64 - n) : Nat) : Int) by push_cast; rfl]
    generalize x * 2 ^ (64 - n) = z
    rw [wrap_u64]
    omega
  have e2 : (x : Int) / 2 ^ n = ((x / 2 ^ n : Nat) : Int) := by push_cast; rfl
  rw [e1, e2, (bits_nat .u64 64 (by decide) wraps_u64 _ _ (Nat.mod_lt _ (by decide)) (Nat.lt_of_le_of_lt (Nat.div_le_self _ _) HX.out)).2]
  rfl

/-- Whole numbers lie in a block. -/
structure Ints (w : World) (b : Nat) (l : List Nat) : Prop where
  at_ : ∀ (i : Nat) (h : i < l.length), w.cell? ⟨b, i, none⟩ = some (.int .i64 ((l[i]'h : Nat) : Int))
  lt : b < w.heap.size
theorem Ints.below {w w' : World} {b : Nat} {l : List Nat} (h : Ints w b l) (hb : Below w.heap.size w w') : Ints w' b l :=
  ⟨fun i hi => by rw [hb.cell h.lt]; exact h.at_ i hi, Nat.lt_of_lt_of_le h.lt hb.size⟩
/-- A word, turned by several and summed. -/
def turnN (x : Nat) (l : List Nat) : Nat := l.foldl (fun o n => o ^^^ rotN x n) 0
theorem turnN_lt (x : Nat) (hx : x < 18446744073709551616) (l : List Nat) : turnN x l < 18446744073709551616 := by
  unfold turnN
  have : ∀ (l : List Nat) (o : Nat), o < 18446744073709551616 → l.foldl (fun o n => o ^^^ rotN x n) o < 18446744073709551616 := by
    intro l
    induction l with
    | nil => intro o h; exact h
    | cons n r ih => intro o h; exact ih _ (Nat.xor_lt_two_pow (n := 64) h (rotN_lt x n hx))
  exact this l 0 (by decide)

set_option maxHeartbeats 4000000 in
theorem turned_any (x : Nat) (l : List Nat) (b cap : Nat) (w : World) (hx : x < 18446744073709551616) (hl : Ints w b l) (hn : ∀ n ∈ l, 0 < n ∧ n < 64) (hlen : l.length ≤ 100) :
    Calls Tryz.prog 189 #[w64 x, .slice (some ⟨b, 0, none⟩) l.length cap] w fun e w' => e = .returned (w64 (turnN x l)) ∧ Below w.heap.size w w' := by
  have HX := Lib.hid hx
  have HL := Lib.hid hl
  have HN := Lib.hid hn
  have HLEN := Lib.hid hlen
  clear hx hl hn hlen
  go_enter Tryz.func189, Tryz.ntmps189
  go_wp2_with fail
  go_loopw [5, 10] (fun o c wr => ∃ k : Nat, k ≤ l.length ∧ c = .int .i64 k ∧ o = w64 (turnN x (l.take k)) ∧ Below w.heap.size w wr) (fun _ c _ => l.length - (intOf c).toNat)
  case atStart => exact ⟨0, by omega, rfl, rfl, by go_grown⟩
  case round =>
    obtain ⟨k, hk, rfl, rfl, bel⟩ := hrel
    by_cases hkl : k < l.length
    · have hlt : decide ((k : Int) < (l.length : Int)) = true := decide_eq_true (by omega)
      have hk0 : (0 : Int) ≤ (k : Int) := by omega
      have hk1 : IntKind.i64.wrap ((k : Int) + 1) = (k : Int) + 1 := by have := HLEN.out; rw [IntKind.wrap_i64]; omega
      have hk2 : (k : Int) < (l.length : Int) := by omega
      have hnk := HN.out l[k] (List.getElem_mem hkl)
      have hng : IntKind.i64.wrap (-((l[k] : Nat) : Int)) = -((l[k] : Nat) : Int) := by rw [IntKind.wrap_i64]; omega
      have IR := HL.out.below bel
      have c0 := IR.at_ k hkl
      have lb := IR.lt
      have HT : Hid (turnN x (l.take (k + 1)) = turnN x (l.take k) ^^^ rotN x l[k]) := Lib.hid (by
        unfold turnN
        rw [List.take_succ_eq_append_getElem hkl, List.foldl_append]
        rfl)
      have HRT := Lib.hid (fun w => rot_any x l[k] w HX.out hnk.1 hnk.2)
      have HXR : Hid (bits .xor .u64 ((turnN x (l.take k) : Nat) : Int) ((rotN x l[k] : Nat) : Int) = ((turnN x (l.take k) ^^^ rotN x l[k] : Nat) : Int)) := Lib.hid (bits_xor_u64_nat _ _ (turnN_lt x HX.out _) (rotN_lt x _ HX.out))
      have HK := Lib.hid hkl
      clear IR hnk hk
      generalize turnN x (l.take k) = o at *
      generalize rotN x l[k] = r at *
      generalize l[k] = n at *
      clear hkl
      go_wp2_with fail
      refine (HRT.out _).mono ?_
      rintro e w2 ⟨rfl, hb2⟩
      have bel2 := bel.trans (hb2.mono bel.size)
      have hxr := HXR.out
      clear bel hb2 c0 lb hng
      go_wp2_with fail
      go_roundw
      case rel => exact ⟨k + 1, by have := HK.out; omega, by simp, by rw [HT.out], bel2⟩
      case measure => have := HK.out; simp [intOf]; omega
    · have hlt : decide (k < l.length) = false := decide_eq_false hkl
      have hkl2 : k = l.length := by omega
      have HE : Hid (turnN x (l.take k) = turnN x l) := Lib.hid (by rw [hkl2, List.take_length])
      have hzs := bel.size
      clear hkl hkl2 hk
      generalize turnN x (l.take k) = o at *
      go_wp2
      refine bodyPost_ret (by simp [results, Tryz.results189, go_sem]; try rfl) rfl ?_
      exact ⟨by rw [← HE.out], by go_grown⟩
end Go.Proofs.YtlgghcffmnofdaaGreatDoor.Sh
