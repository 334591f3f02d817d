/-
  What a row's first world gives a walk: variables that hold words.
-/
import Derived.Shelf.Vars
import Derived.Test.YtlgghcffmnofdaaGreatDoorNumAll

namespace Go.Proofs.YtlgghcffmnofdaaGreatDoor.Nu
open Go Go.RowKit Go.Proofs.YtlgghcffmnofdaaGreatDoor.Cn
set_option maxRecDepth 100000

theorem wd_of_shaped {W : World} {g n : Nat} {t : TypeId} {zero : Array Value} {ts : List TypeId} (h : W.ShapedOpen Tryz.prog) (hg : g < Tryz.prog.globals.size)
    (h0 : ((begin Tryz.prog (fun _ _ => 0) default).world.heap[g]?).bind Obj.row? = some (zero, t)) (hz : zero.size = n) (hb : Tryz.prog.buildable t = true) (hc : Tryz.prog.cellTypes Tryz.prog.depth t = some ts)
    (hts : ∀ u ∈ ts, Tryz.prog.underlying u = some (.int .u64)) : ∃ f : Nat → Nat, (∀ i, f i < 18446744073709551616) ∧ Wd W g n f := by
  obtain ⟨cs, hh, hs, hr⟩ := h.1 g zero t hg h0
  obtain ⟨ts', hts', _, hall⟩ := hr hb
  rw [hc] at hts'
  cases hts'
  have hcell : ∀ i, i < n → ∃ m : Nat, m < 18446744073709551616 ∧ cs[i]? = some (w64 m) := by
    intro i hi
    have hi2 : i < cs.size := by omega
    obtain ⟨u, hu, hok⟩ := hall i cs[i] (by simp [hi2])
    have hu2 := hts u (List.mem_of_getElem? hu)
    unfold Cell.ok at hok
    rw [hu2] at hok
    cases hv : cs[i] <;> rw [hv] at hok <;> simp at hok
    case int k' z =>
      obtain ⟨rfl, hz2⟩ := hok
      have hz3 : 0 ≤ z ∧ z < 18446744073709551616 := by
        simp [IntKind.has, IntKind.min, IntKind.max, IntKind.signed, IntKind.bits] at hz2
        omega
      refine ⟨z.toNat, by omega, ?_⟩
      rw [Array.getElem?_eq_getElem hi2, hv]
      show _ = some (Value.int .u64 ((z.toNat : Nat) : Int))
      rw [Int.toNat_of_nonneg hz3.1]
  refine ⟨fun i => if h : i < n then Classical.choose (hcell i h) else 0, fun i => ?_, ?_⟩
  · dsimp only
    split
    · rename_i hi
      exact (Classical.choose_spec (hcell i hi)).1
    · decide
  · refine Wd.row hh (fun i hi => ?_)
    rw [dif_pos hi]
    exact (Classical.choose_spec (hcell i hi)).2

theorem start512_of {W : World} (h : W.ShapedOpen Tryz.prog) : ∃ f : Nat → Nat, (∀ i, f i < 18446744073709551616) ∧ Wd W 2 8 f :=
  wd_of_shaped (zero := Array.replicate 8 (.int .u64 0)) (t := 162) (ts := List.replicate 8 148) h (of_decide_eq_true (by kernel_rfl)) (by kernel_rfl) rfl (by kernel_rfl) (by kernel_rfl) (fun u hu => by rw [List.eq_of_mem_replicate hu]; exact Tryz.underlying148)
theorem rounds80_of {W : World} (h : W.ShapedOpen Tryz.prog) : ∃ f : Nat → Nat, (∀ i, f i < 18446744073709551616) ∧ Wd W 6 80 f :=
  wd_of_shaped (zero := Array.replicate 80 (.int .u64 0)) (t := 233) (ts := List.replicate 80 148) h (of_decide_eq_true (by kernel_rfl)) (by kernel_rfl) rfl (by kernel_rfl) (by kernel_rfl) (fun u hu => by rw [List.eq_of_mem_replicate hu]; exact Tryz.underlying148)
end Go.Proofs.YtlgghcffmnofdaaGreatDoor.Nu
