/-
  The walk of coin.runeAt: where a rune first stands in a text of ASCII signs.
-/
import Derived.Test.YtlgghcffmnofdaaGreatDoorProg
import Derived.Test.YtlgghcffmnofdaaGreatDoorCoinPlain
import Derived.WalkKit
import Derived.Lib.OthersKept
namespace Go.Proofs.YtlgghcffmnofdaaGreatDoor.Cn
open Go.RowKit

set_option maxHeartbeats 800000 in
theorem runeAt_any (s : ByteArray) (r : Int) (w : World) (ha : ∀ (i : Nat) (h : i < s.size), (s[i]'h).toNat < 128) :
    Calls Tryz.prog 206 #[.string s, .int .i32 r] w fun e w' => e = .returned (.int .i64 (at_ s.data.toList r 0)) ∧ Below w.heap.size w w' := by
  go_enter Tryz.func206, Tryz.ntmps206
  go_wp2
  go_loopw [4] (fun v w' => ∃ k : Nat, k ≤ s.size ∧ w' = w.iter s k ∧ v = .int .i64 0 ∧ Hid (at_ (s.data.toList.drop k) r k = at_ s.data.toList r 0)) (fun _ w' => s.size - w'.iterPos w.heap.size)
  case atStart => exact ⟨0, Nat.zero_le _, rfl, rfl, rfl⟩
  case round =>
    obtain ⟨k, hk, rfl, rfl, hc⟩ := hrel
    by_cases hp : k < s.size
    · have hnx : ∀ ty, (Instr.next (.pointer (some ⟨w.heap.size, 0, none⟩)) true ty).run Tryz.prog (w.iter s k) = _ := fun ty => run_next_ascii w s k ty hp (ha k hp)
      have hst := at_step s r k hp
      by_cases he : ((s[k]'hp).toNat : Int) = r
      · have hb : (((s[k]'hp).toNat : Int) == r) = true := by simpa using he
        rw [if_pos he] at hst
        have hfin : Hid (at_ s.data.toList r 0 = (k : Int)) := by rw [← hc.out]; exact hst
        clear hst he hc
        go_wp2
        go_ret
        exact ⟨by rw [hfin.out]; rfl, (Below.refl _ _).alloc (Nat.le_refl _) _⟩
      · have hb : (((s[k]'hp).toNat : Int) == r) = false := by simpa using he
        rw [if_neg he] at hst
        have hfin : Hid (at_ (s.data.toList.drop (k + 1)) r (k + 1) = at_ s.data.toList r 0) := by rw [← hst]; exact hc
        clear hst he hc
        go_wp2
        go_roundw
        case rel => exact ⟨k + 1, by omega, rfl, rfl, hfin⟩
        case measure => simp; omega
    · have hnx : ∀ ty, (Instr.next (.pointer (some ⟨w.heap.size, 0, none⟩)) true ty).run Tryz.prog (w.iter s k) = _ := fun ty => run_next_end w s k ty hp
      have hst := at_end s r k hp
      have hfin : Hid (at_ s.data.toList r 0 = -1) := by rw [← hc.out]; exact hst
      clear hst hc
      go_wp2
      go_ret
      exact ⟨by rw [hfin.out]; rfl, (Below.refl _ _).alloc (Nat.le_refl _) _⟩
end Go.Proofs.YtlgghcffmnofdaaGreatDoor.Cn
