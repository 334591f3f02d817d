/-
  local.Open of a text that begins with another head; coin.Split.
-/
import Derived.Test.YtlgghcffmnofdaaGreatDoorHead
namespace Go.Proofs.YtlgghcffmnofdaaGreatDoor.Ke
open Go Go.RowKit Go.Proofs.YtlgghcffmnofdaaGreatDoor.Cn
set_option maxRecDepth 100000

theorem lopen_mis (h s : ByteArray) (w : World) (hp : Lib.hasPrefix s.data.toList h.data.toList = false) :
    Calls Tryz.prog 28 #[.string h, .string s] w fun e w' => e = .returned (.tuple #[.slice none 0 0, .slice none 0 0, .int .i64 7]) ∧ Below w.heap.size w w' := by
  go_enter Tryz.func28, Tryz.ntmps28
  go_wp2_with fail
  refine (Tryz.strings_CutPrefix s h _).mono ?_
  rintro e w1 ⟨rfl, rfl⟩
  rw [hp]
  go_wp2_with fail
  go_returns
  exact ⟨rfl, Below.refl _ _⟩

/-- The variable that strings.Index looks at holds a number. -/
def Mx (w : World) : Prop := ∃ m, w.cell? ⟨7, 0, none⟩ = some (.int .i64 m)
theorem Mx.below {w w' : World} (h : Mx w) (hb : Below w.heap.size w w') : Mx w' := h.imp fun _ h => cell_below h hb

theorem split_many (s : ByteArray) (n : Int) (w : World) (h : n < (Lib.countByte s.data.toList 46 : Int) + 1) (hc : (Lib.countByte s.data.toList 46 : Int) < 4294967296) :
    Calls Tryz.prog 65 #[.string s, .int .i64 n] w fun e w' => e = .returned (.slice none 0 0) ∧ Below w.heap.size w w' := by
  have h1 : decide (n < (Lib.countByte s.data.toList 46 : Int) + 1) = true := decide_eq_true h
  have h2 : IntKind.i64.wrap ((Lib.countByte s.data.toList 46 : Int) + 1) = (Lib.countByte s.data.toList 46 : Int) + 1 := by rw [IntKind.wrap_i64]; omega
  clear h hc
  go_enter Tryz.func65, Tryz.ntmps65
  go_wp2_with fail
  refine (Tryz.strings_Count_one s 46 _).mono ?_
  rintro e w1 ⟨rfl, rfl⟩
  go_wp2_with fail
  go_returns
  exact ⟨rfl, Below.refl _ _⟩

theorem split_few (s : ByteArray) (n : Int) (w : World) (hm : Mx w) (hs : s.size < 4294967281) (h : ¬ n < (Lib.countByte s.data.toList 46 : Int) + 1) (hc : (Lib.countByte s.data.toList 46 : Int) < 4294967296) :
    Calls Tryz.prog 65 #[.string s, .int .i64 n] w fun e w' =>
      e = .returned (.slice (some ⟨w.heap.size, 0, none⟩) (Lib.countB s ⟨#[46]⟩ + 1) (Lib.countB s ⟨#[46]⟩ + 1)) ∧ w' = w.alloc (.cells ((Lib.splitB ⟨#[46]⟩ 0 (Lib.countB s ⟨#[46]⟩) s).map Value.string).toArray 9) := by
  have h1 : decide (n < (Lib.countByte s.data.toList 46 : Int) + 1) = false := decide_eq_false h
  have h2 : IntKind.i64.wrap ((Lib.countByte s.data.toList 46 : Int) + 1) = (Lib.countByte s.data.toList 46 : Int) + 1 := by rw [IntKind.wrap_i64]; omega
  clear h hc
  obtain ⟨m, hm⟩ := hm
  go_enter Tryz.func65, Tryz.ntmps65
  go_wp2_with fail
  refine (Tryz.strings_Count_one s 46 _).mono ?_
  rintro e w1 ⟨rfl, rfl⟩
  go_wp2_with fail
  refine (Tryz.strings_Split s ⟨#[46]⟩ m _ hs hm (by decide)).mono ?_
  rintro e w2 ⟨rfl, rfl⟩
  go_wp2_with fail
  go_returns
  exact ⟨rfl, rfl⟩
end Go.Proofs.YtlgghcffmnofdaaGreatDoor.Ke
