/-
  An argument of type []byte: what its cells hold.
-/
import Derived.Test.YtlgghcffmnofdaaGreatDoorCoinVoc
import Derived.ProofKit
import Derived.Carry
namespace Go.Proofs.YtlgghcffmnofdaaGreatDoor.Cn
open Go.ChangeShapes Go.WideShapes Go.ChangeAt Go.RowKit Go.ChangeMaps

theorem cellsByte : Tryz.prog.cellsOf 5 = 1 := by kernel_rfl

theorem add_plain (b off j : Nat) : (⟨b, off, none⟩ : Addr).add j = ⟨b, off + j, none⟩ := by unfold Addr.add; split <;> simp_all

theorem spot_none {w : World} {a : Addr} {v : Value} (h : w.cell? a = some v) : a.spot = none := by
  unfold World.cell? at h
  split at h
  · split at h
    · cases h
    · rename_i h1
      cases hs : a.spot with
      | none => rfl
      | some x => simp [hs] at h1
  · cases h

set_option maxRecDepth 100000 in
theorem arg_bsl {H : Type} {enc : TypeId × Value → H} {W : World} {r : Reach} {base : Nat} {v : Value} {d : DataW H} {ps : List MemPlace} {sp : Nat → Bool} {held : Bool}
    (hv : Value.okWide Tryz.prog W r base 36 v) (h : DataW.Trod enc Tryz.prog W 0 sp held 36 v d ps) : ∃ l, Bsl W v l ∧ l.length ≤ maxLen := by
  obtain ⟨a0, len, cap, rfl⟩ := okWide_slice Tryz.underlying36 hv
  obtain ⟨fuel, hf⟩ := h
  rcases open_ints Tryz.underlying36 Tryz.underlying5 cellsByte hf with ⟨hcs, hx⟩ | ⟨a, len', cap', zs, hcs, _, hl, hm, hz, hx, hcell, hwz⟩
  · simp only [Value.cells, List.cons.injEq, and_true] at hcs
    rw [hcs]
    exact ⟨[], Bsl.nil W, by simp⟩
  · simp only [Value.cells, List.cons.injEq, and_true] at hcs
    injection hcs with h1 h2 h3
    subst h1 h2 h3
    have hzl : len ≤ zs.length := by rw [hz]; split <;> omega
    have hlen : ((zs.take len).map fun n => UInt8.ofNat n.toNat).length = len := by simp; omega
    refine ⟨(zs.take len).map fun n => UInt8.ofNat n.toNat, ⟨some a, cap, by rw [hlen], by omega, fun j hj => ?_⟩, by rw [hlen]; omega⟩
    rw [hlen] at hj
    have hc := hcell j (by omega)
    have hw := hwz zs[j] (List.getElem_mem _)
    have hrange : 0 ≤ zs[j] ∧ zs[j] < 256 := by
      simp [Lit.wf, IntKind.min, IntKind.max, IntKind.signed, IntKind.bits] at hw
      omega
    have hs := spot_none (hcell 0 (by omega))
    rw [show a.add 0 = a from rfl] at hs
    obtain ⟨b, off, spot⟩ := a
    simp only at hs
    subst hs
    refine ⟨b, off, rfl, ?_⟩
    rw [← add_plain, hc]
    have e1 : zs.getD j 0 = zs[j] := by simp [show j < zs.length by omega]
    rw [e1, List.getElem_map, List.getElem_take]
    congr 2
    rw [UInt8.toNat_ofNat']
    omega
end Go.Proofs.YtlgghcffmnofdaaGreatDoor.Cn
