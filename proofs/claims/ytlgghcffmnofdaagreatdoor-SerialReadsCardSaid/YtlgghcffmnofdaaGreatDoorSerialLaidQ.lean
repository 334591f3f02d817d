/-
  What the rows' lists give the walks: the alphabet, the words.
-/
import Derived.Test.YtlgghcffmnofdaaGreatDoorCards
import Derived.WalkKit
import Derived.ProofKit
import Derived.Lib.LaidTab
import Derived.Test.YtlgghcffmnofdaaGreatDoorMildAll
import Derived.Test.YtlgghcffmnofdaaGreatDoorSerialQ

namespace Go.Proofs.YtlgghcffmnofdaaGreatDoor.La
open Go Go.Lib Go.ChangeShapes Go.WideShapes Go.ChangeAt Go.RowKit Go.ChangeMaps Go.Proofs.YtlgghcffmnofdaaGreatDoor.Cn Go.Proofs.YtlgghcffmnofdaaGreatDoor.Ke

set_option maxRecDepth 100000

theorem gBase : Tryz.prog.globalNamed "escutcheon/coin.base" = some 1 := by kernel_rfl
theorem tBase : (Tryz.prog.globals[1]?).map (·.type) = some 160 := by kernel_rfl
theorem gWords : Tryz.prog.globalNamed "escutcheon/serial.words" = some 0 := by kernel_rfl
theorem tWords : (Tryz.prog.globals[0]?).map (·.type) = some 33 := by kernel_rfl

theorem base_of {W : World} {laid : List (String × DataW Unit)} {ps : List MemPlace} (h : DataW.LaidVars Tryz.prog W laid ps) (hm : ("escutcheon/coin.base", Rows.laid_escutcheon_coin_base) ∈ laid) : Base W := by
  obtain ⟨g0, t0, cs0, f0, p0, hg0, ht0, hv0, hd0⟩ := laid_at h hm
  obtain rfl := Option.some.inj (gBase.symm.trans hg0)
  obtain rfl := Option.some.inj (tBase.symm.trans ht0)
  obtain ⟨y0, y1, n, hx, hl, h0, h1⟩ := trod_struct2 Tryz.underlying160 hd0
  have c33 : Tryz.prog.cellsOf 160 = 2 := by kernel_rfl
  have c9 : Tryz.prog.cellsOf 9 = 1 := by kernel_rfl
  have c3 : Tryz.prog.cellsOf 3 = 1 := by kernel_rfl
  rw [c33] at hl
  obtain ⟨l0⟩ := cs0
  match l0, hl with
  | [a, b], _ =>
    obtain ⟨s, e0, e1, _⟩ := DataW.trod_string Tryz.underlying9 h0
    obtain ⟨k, e2, e3, _⟩ := DataW.trod_int Tryz.underlying3 h1
    simp only [c9, c3, List.drop_zero, List.take_succ_cons, List.take_zero, List.drop_succ_cons] at e0 e2
    simp only [List.cons.injEq, and_true] at e0 e2
    subst e0 e2
    rw [e1, e3] at hx
    simp only [Prod.mk.injEq] at hx
    have hx1 := hx.1
    simp only [Rows.laid_escutcheon_coin_base, DataW.agg.injEq, List.cons.injEq, DataW.lit.injEq, Lit.string.injEq, Lit.int.injEq, and_true, true_and] at hx1
    obtain ⟨hs, hk⟩ := hx1
    have hs' : s = sg64 := by
      have : s.data.toList = sg64.data.toList := hs.symm
      have h2 := congrArg List.toArray this
      simp only [Array.toArray_toList] at h2
      obtain ⟨d⟩ := s
      exact congrArg ByteArray.mk h2
    subst hs' hk
    have v0 := World.var?_cell hg0 hv0 0
    have v1 := World.var?_cell hg0 hv0 1
    exact ⟨by simpa using v0, by simpa using v1⟩

def wordsZ : List (List (List UInt8)) := [[[], []], [[108, 111, 99, 97, 108], [108, 105, 100]], [[115, 101, 99, 114, 101, 116], [115, 105, 100]], [[112, 117, 98, 108, 105, 99], [112, 105, 100]]]

theorem words_of {W : World} {laid : List (String × DataW Unit)} {ps : List MemPlace} (h : DataW.LaidVars Tryz.prog W laid ps) (hm : ("escutcheon/serial.words", Rows.laid_escutcheon_serial_words) ∈ laid) : Words W := by
  obtain ⟨g0, t0, cs0, f0, p0, hg0, ht0, hv0, hd0⟩ := laid_at h hm
  obtain rfl := Option.some.inj (gWords.symm.trans hg0)
  obtain rfl := Option.some.inj (tWords.symm.trans ht0)
  have c33 : Tryz.prog.cellsOf 33 = 8 := by kernel_rfl
  have c32 : Tryz.prog.cellsOf 32 = 2 := by kernel_rfl
  have c9 : Tryz.prog.cellsOf 9 = 1 := by kernel_rfl
  have hl := len_of Tryz.underlying33 hd0
  rw [c33] at hl
  have hd1 : DataW.trod (fun _ => ()) Tryz.prog W 0 (fun _ => true) false f0 33 cs0.toList = some (.agg (wordsZ.map fun z => .agg (z.map fun y => .lit (.string y))), p0) := hd0
  have hp := strs2_of (m := 2) Tryz.underlying33 Tryz.underlying32 Tryz.underlying9 c9 c32 (by rw [hl]) hd1
  have p0 := hp 0 _ rfl
  have p1 := hp 1 _ rfl
  have p2 := hp 2 _ rfl
  have p3 := hp 3 _ rfl
  obtain ⟨l0⟩ := cs0
  match l0, hl with
  | [a0, a1, a2, a3, a4, a5, a6, a7], _ =>
    simp only [Nat.reduceMul, List.drop_zero, List.take_succ_cons, List.take_zero, List.drop_succ_cons, List.map_cons, List.map_nil, List.cons.injEq, and_true] at p0 p1 p2 p3
    obtain ⟨rfl, rfl⟩ := p0
    obtain ⟨rfl, rfl⟩ := p1
    obtain ⟨rfl, rfl⟩ := p2
    obtain ⟨rfl, rfl⟩ := p3
    intro j s hj
    have v := World.var?_cell hg0 hv0 j
    rw [v]
    rcases j with _ | _ | _ | _ | _ | _ | _ | _ | j <;> first | (simp [wordsL] at hj; done) | (obtain rfl := Option.some.inj hj; rfl)
end Go.Proofs.YtlgghcffmnofdaaGreatDoor.La
