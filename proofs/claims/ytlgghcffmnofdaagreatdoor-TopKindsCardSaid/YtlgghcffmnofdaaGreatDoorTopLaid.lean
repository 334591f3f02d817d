/-
  What the rows of the top give the walks: an array of 32 bytes by value, the variable of strings.Index.
-/
import Derived.Test.YtlgghcffmnofdaaGreatDoorSerialLaid
import Derived.Test.YtlgghcffmnofdaaGreatDoorLocalA
import Derived.Test.YtlgghcffmnofdaaGreatDoorArgs
import Derived.OpenShut
import Derived.Carry
namespace Go.Proofs.YtlgghcffmnofdaaGreatDoor.La
open Go Go.Lib Go.ChangeShapes Go.WideShapes Go.ChangeAt Go.RowKit Go.ChangeMaps Go.Proofs.YtlgghcffmnofdaaGreatDoor.Cn Go.Proofs.YtlgghcffmnofdaaGreatDoor.Ke
set_option maxRecDepth 100000

theorem mx_of {W : World} (h : W.ShapedOpen Tryz.prog) : Mx W :=
  let ⟨m, hm⟩ := Tryz.laysM143.s1_3 W h
  ⟨m, hm⟩

theorem laidOutT : laidOutB Tryz.prog = true := by kernel_rfl

theorem okWide_arr {P : Program} {w : World} {r : Reach} {base : Nat} {t e : TypeId} {n : Nat} {v : Value} (ht : P.underlying t = some (.array n e)) (h : Value.okWide P w r base t v) : ∃ cs, v = .agg cs ∧ cs.size = P.cellsOf t := by
  simp only [Value.okWide, ht] at h
  obtain ⟨cs, h1, h2, _⟩ := h
  exact ⟨cs, h1, h2⟩

theorem arg_arr32 {H : Type} {enc : TypeId × Value → H} {W : World} {r : Reach} {base : Nat} {v : Value} {d : DataW H} {ps : List MemPlace} {sp : Nat → Bool} {held : Bool}
    (hv : Value.okWide Tryz.prog W r base 64 v) (h : DataW.Trod enc Tryz.prog W 0 sp held 64 v d ps) : ∃ l : List UInt8, v = .agg (cs l).toArray ∧ l.length = 32 ∧ ps = [] := by
  obtain ⟨⟨l0⟩, rfl, hsz⟩ := okWide_arr Tryz.underlying64 hv
  obtain ⟨fuel, hf⟩ := h
  obtain ⟨xs, m, rfl, hx, hl, hxl, hat⟩ := DataW.trod_array Tryz.underlying64 hf
  have c1 : Tryz.prog.cellsOf 5 = 1 := by kernel_rfl
  have c32 : Tryz.prog.cellsOf 64 = 32 := by kernel_rfl
  simp only [Value.cells] at hl hat
  rw [c32] at hl
  rw [c1] at hat
  have key : ∀ i, i < 32 → ∃ z : Int, l0[i]? = some (.int .u8 z) ∧ 0 ≤ z ∧ z ≤ 255 ∧ ∃ d, xs[i]? = some (d, []) := by
    intro i hi
    have h1 := hat i hi
    obtain ⟨y, hy⟩ : ∃ y, xs[i]? = some y := ⟨_, List.getElem?_eq_getElem (by omega)⟩
    rw [hy] at h1
    obtain ⟨z, e0, e1, hw⟩ := DataW.trod_int Tryz.underlying5 h1
    have h2 : l0[i]? = some (.int .u8 z) := by
      have := congrArg (·[0]?) e0
      simpa [List.getElem?_take, List.getElem?_drop] using this
    obtain ⟨b0, b1⟩ := bounds_u8 hw
    exact ⟨z, h2, b0, b1, y.1, by rw [hy, e1]⟩
  refine ⟨l0.map fun v => match v with | .int _ z => UInt8.ofNat z.toNat | _ => 0, ?_, by simpa using hl, ?_⟩
  · congr 2
    apply List.ext_getElem?
    intro i
    by_cases hi : i < 32
    · obtain ⟨z, h0, b0, b1, _⟩ := key i hi
      simp [cs, h0]
      omega
    · rw [List.getElem?_eq_none (by omega), List.getElem?_eq_none (by simp [cs]; omega)]
  · rw [show ps = xs.flatMap (·.2) from congrArg Prod.snd hx]
    rw [List.flatMap_eq_nil_iff]
    intro y hy
    obtain ⟨i, hi, rfl⟩ := List.getElem_of_mem hy
    obtain ⟨_, _, _, _, d, hd⟩ := key i (by omega)
    rw [List.getElem?_eq_getElem hi] at hd
    rw [Option.some.inj hd]
end Go.Proofs.YtlgghcffmnofdaaGreatDoor.La
