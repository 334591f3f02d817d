/-
  The walk of sha.state.bytes.
-/
import Derived.Test.YtlgghcffmnofdaaGreatDoorShaBQ
import Derived.Test.YtlgghcffmnofdaaGreatDoorSignBQ

namespace Go.Proofs.YtlgghcffmnofdaaGreatDoor.Sh
open Go Go.RowKit Go.Proofs.YtlgghcffmnofdaaGreatDoor.Cn Go.Proofs.YtlgghcffmnofdaaGreatDoor.Nu
set_option maxRecDepth 100000

/-- The bytes of words, the highest first. -/
def sbyte (st : Nat → Nat) (k : Nat) : Nat := st (k / 8) / 2 ^ (56 - 8 * (k % 8)) % 256
def sbytes (st : Nat → Nat) (k : Nat) : List UInt8 := (List.range k).map fun i => UInt8.ofNat (sbyte st i)
theorem sbytes_length (st : Nat → Nat) (k : Nat) : (sbytes st k).length = k := by simp [sbytes]
theorem sbytes_succ (st : Nat → Nat) (k : Nat) : sbytes st (k + 1) = sbytes st k ++ [UInt8.ofNat (sbyte st k)] := by simp [sbytes, List.range_succ]
theorem sbyte_lt (st : Nat → Nat) (k : Nat) : sbyte st k < 256 := Nat.mod_lt _ (by decide)

set_option maxHeartbeats 8000000 in
theorem sbytes_any (st : Nat → Nat) (g : Nat) (w : World) (hst : ∀ i, i < 8 → w.cell? ⟨g, i, none⟩ = some (w64 (st i))) (hgl : g < w.heap.size) :
    Calls Tryz.prog 137 #[.pointer (some ⟨g, 0, none⟩)] w fun e w' => ∃ v, e = .returned v ∧ w'.ownsRow w.heap.size 5 1 v 64 (cs (sbytes st 64)) ∧ Below w.heap.size w w' := by
  obtain ⟨i0, hi, hz0, hz1, hz2⟩ := info_parts (show (Tryz.prog.info? 5).map (fun i => (i.zero, i.size, i.bytes)) = some (some (.int .u8 0), 1, 1) by kernel_rfl)
  have HST := Lib.hid hst
  have HG := Lib.hid hgl
  clear hst hgl
  go_enter Tryz.func137, Tryz.ntmps137
  go_wp2_with fail
  go_loopw [3, 8] (fun v c wr => ∃ i : Nat, i ≤ 8 ∧ c = .int .i64 i ∧ wr.ownsRow w.heap.size 5 1 v (8 * i) (cs (sbytes st (8 * i))) ∧ Below w.heap.size w wr) (fun _ c _ => 8 - (intOf c).toNat)
  case atStart => exact ⟨0, by omega, rfl, World.ownsRow_nil _ _ _ _, Below.refl _ _⟩
  case round =>
    obtain ⟨i, hi8, rfl, hown, bel⟩ := hrel
    by_cases hil : i < 8
    · have hlt : decide ((i : Int) < 8) = true := decide_eq_true (by omega)
      have hi0 : (0 : Int) ≤ (i : Int) := by omega
      have hii : (i : Int) < 8 := by omega
      have hi1 : IntKind.i64.wrap ((i : Int) + 1) = (i : Int) + 1 := by rw [IntKind.wrap_i64]; omega
      have cg := (bel.cell (p := ⟨g, i, none⟩) HG.out).trans (HST.out i hil)
      have lg := Nat.lt_of_lt_of_le HG.out bel.size
      have HI := Lib.hid hil
      obtain ⟨x, hx⟩ : ∃ x, x = st i := ⟨_, rfl⟩
      rw [← hx] at cg
      have HX := Lib.hid hx
      clear hi8 hil hx
      go_wp2_with fail
      go_loopw [3, 6] (fun v c wr => ∃ (j : Nat) (z : Int), j ≤ 8 ∧ z = 56 - 8 * (j : Int) ∧ c = .int .i64 z ∧ wr.ownsRow w.heap.size 5 1 v (8 * i + j) (cs (sbytes st (8 * i + j))) ∧ Below w.heap.size w wr) (fun _ c _ => (intOf c + 8).toNat)
      case atStart => exact ⟨0, 56, by omega, by omega, rfl, hown, bel⟩
      case round =>
        clear hown bel cg lg
        obtain ⟨j, z, hj8, hz, rfl, hown, bel⟩ := hrel
        by_cases hjl : j < 8
        · obtain ⟨y, hy, rfl⟩ : ∃ y : Nat, y = 56 - 8 * j ∧ z = (y : Int) := ⟨56 - 8 * j, rfl, by omega⟩
          have hy0 : (0 : Int) ≤ (y : Int) := by omega
          have hyd : decide ((0 : Int) ≤ (y : Int)) = true := decide_eq_true hy0
          have hy64 : (y : Int) < 64 := by omega
          have hy1 : IntKind.i64.wrap ((y : Int) - 8) = (y : Int) - 8 := by rw [IntKind.wrap_i64]; omega
          obtain ⟨b, hb0⟩ : ∃ b, b = x / 2 ^ y % 256 := ⟨_, rfl⟩
          have hb : IntKind.u8.wrap ((x : Int) / 2 ^ y) = (b : Int) := by
            have e : ((x : Int) / 2 ^ y) = ((x / 2 ^ y : Nat) : Int) := by push_cast; rfl
            rw [e, hb0]
            generalize x / 2 ^ y = q
            rw [IntKind.wrap_u8]
            omega
          have HSB : Hid (sbytes st (8 * i + j + 1) = sbytes st (8 * i + j) ++ [UInt8.ofNat b]) := Lib.hid (by
            rw [sbytes_succ, hb0, HX.out, hy]
            unfold sbyte
            rw [show (8 * i + j) / 8 = i by omega, show (8 * i + j) % 8 = j by omega])
          have HBL : Hid (b < 256) := Lib.hid (by rw [hb0]; exact Nat.mod_lt _ (by decide))
          have HJ := Lib.hid (And.intro hjl hy)
          obtain ⟨k, hk⟩ : ∃ k, k = 8 * i + j := ⟨_, rfl⟩
          have HKK := Lib.hid hk
          rw [← hk] at hown HSB
          have hsz := bel.size
          clear hz hj8 hjl hb0 hy hk
          go_wp2_with (at_builtin; go_must (refine wpList_append_own _ rfl _ _ 36 rfl w.heap.size 5 i0 (.int .u8 0) 1 1 Tryz.underlying36 hi hz0 hz1 hz2 rfl (by decide) _ _ _ rfl (World.ownsRow.alloc (w := wr) hown _) ⟨wr.heap.size, 0, none⟩ 1 1 [.int .u8 (b : Int)] rfl rfl (cell_one_new _ _ _) (by intro u hu; simp at hu; subst hu; rfl) (by have := HJ.out; have := HKK.out; have := HI.out; unfold maxLen; omega) (by have := HJ.out; have := HKK.out; have := HI.out; omega) (by have := HJ.out; simp; omega) ?_))
          intro v' w2 own2 hgrow _
          have hB : Below w.heap.size wr w2 := ((Below.refl w.heap.size wr).alloc hsz _).grown hgrow (by simp; omega) (Vo.own_ge hown (Nat.le_refl _))
          have own3 : w2.ownsRow w.heap.size 5 1 v' (k + 1) (cs (sbytes st (k + 1))) := by
            have e : cs (sbytes st (k + 1)) = cs (sbytes st k) ++ [Value.int .u8 (b : Int)] := by
              rw [HSB.out, cs_append]
              simp only [cs, List.map_cons, List.map_nil, UInt8.toNat_ofNat']
              rw [Nat.mod_eq_of_lt (show b < 2 ^ 8 from HBL.out)]
            rw [e]
            exact own2
          have bel2 : Below w.heap.size w w2 := bel.trans hB
          clear hown hgrow own2 hB bel hb
          go_wp2_with fail
          go_roundw
          case rel =>
            refine ⟨j + 1, (y : Int) - 8, by have := HJ.out; omega, by have := HJ.out; omega, rfl, ?_, bel2⟩
            rw [← Nat.add_assoc, ← HKK.out]
            exact own3
          case measure => have := HJ.out; simp [intOf]; omega
        · obtain rfl : j = 8 := by omega
          obtain rfl : z = -8 := by omega
          clear hz hj8 hjl
          go_wp2_with fail
          go_roundw
          case rel => exact ⟨i + 1, by have := HI.out; omega, by simp, hown, bel⟩
          case measure => have := HI.out; simp [intOf]; omega
    · obtain rfl : i = 8 := by omega
      have hlt : decide ((8 : Int) < 8) = false := by decide
      have hzs := bel.size
      clear hi8 hil
      go_wp2
      refine bodyPost_ret (by simp [results, Tryz.results137, go_sem]; try rfl) rfl ?_
      exact ⟨_, rfl, hown, bel⟩
end Go.Proofs.YtlgghcffmnofdaaGreatDoor.Sh
