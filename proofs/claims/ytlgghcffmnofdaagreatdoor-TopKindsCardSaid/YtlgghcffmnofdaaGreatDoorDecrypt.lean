/-
  local.Decrypt of a text that begins with another head.
-/
import Derived.Test.YtlgghcffmnofdaaGreatDoorOpenM
import Derived.Test.YtlgghcffmnofdaaGreatDoorLocalA
namespace Go.Proofs.YtlgghcffmnofdaaGreatDoor.Ke
open Go Go.RowKit Go.Proofs.YtlgghcffmnofdaaGreatDoor.Cn
set_option maxRecDepth 100000

def lhead (v : Int) : ByteArray := if v = 3 then ⟨#[118, 51, 46, 108, 111, 99, 97, 108, 46]⟩ else ⟨#[118, 52, 46, 108, 111, 99, 97, 108, 46]⟩

theorem decrypt_mis (v : Int) (b s : ByteArray) (w : World) (hv : v = 3 ∨ v = 4) (hp : Lib.hasPrefix s.data.toList (lhead v).data.toList = false) :
    Calls Tryz.prog 26 #[keyV v 1 b, .string s, .slice none 0 0] w fun e w' => e = .returned (.tuple #[.agg #[.slice none 0 0, .slice none 0 0, .slice none 0 0], .int .i64 7]) ∧ Below w.heap.size w w' := by
  obtain ⟨t, hopen⟩ : ∃ t, ∀ w, Calls Tryz.prog 57 #[keyV v 1 b] w fun e w' => e = .returned (.tuple #[makerV (.iface t (.agg #[])) v 1 b (lhead v), .bool true]) ∧ Below w.heap.size w w' := by
    rcases hv with rfl | rfl
    · exact ⟨_, fun w => open_31 b w⟩
    · exact ⟨_, fun w => open_41 b w⟩
  have HO := Lib.hid hopen
  have HP := Lib.hid hp
  clear hopen hp hv
  generalize lhead v = h at *
  go_enter Tryz.func26, Tryz.ntmps26
  go_wp2_with fail
  refine (HO.out _).mono ?_
  rintro e w1 ⟨rfl, hb1⟩
  have z0 := Vo.heap_below (heap_alloc_new (w.alloc (Obj.cells #[Value.int IntKind.i64 v, Value.int IntKind.i64 1, Value.string b] 28)) (Obj.cells #[Value.slice none 0 0, Value.slice none 0 0, Value.slice none 0 0] 53)) hb1
  rw [show (w.alloc (Obj.cells #[Value.int IntKind.i64 v, Value.int IntKind.i64 1, Value.string b] 28)).heap.size = w.heap.size + 1 by simp] at z0
  have bel1 := (((Below.refl w.heap.size w).alloc (Nat.le_refl _) (Obj.cells #[Value.int IntKind.i64 v, Value.int IntKind.i64 1, Value.string b] 28)).alloc (by simp) (Obj.cells #[Value.slice none 0 0, Value.slice none 0 0, Value.slice none 0 0] 53)).trans (hb1.mono (by simp; omega))
  have hba := (Below.refl w1.heap.size w1).alloc (Nat.le_refl _) (Obj.cells #[Value.iface t (Value.agg #[]), Value.int IntKind.i64 v, Value.int IntKind.i64 1, Value.string b, Value.string h] 110)
  have z1 := Vo.heap_below z0 hba
  have bel1a := bel1.trans (hba.mono bel1.size)
  clear hb1 hba z0 bel1
  go_wp2_with fail
  refine (lopen_mis h s _ HP.out).mono ?_
  rintro e w2 ⟨rfl, hb2⟩
  have z2 := Vo.heap_below z1 hb2
  have c0 := cell_of_row w2 _ 0 _ _ _ z2
  have c1 := cell_of_row w2 _ 1 _ _ _ z2
  have c2 := cell_of_row w2 _ 2 _ _ _ z2
  have f0 : ∀ j, w2.frozen? ⟨w.heap.size + 1, j, none⟩ = false := fun j => frozen_of_row w2 _ j _ _ z2
  have bel := bel1a.trans (hb2.mono bel1a.size)
  have hz := bel.size
  clear hb2 z1 z2 bel1a
  go_wp2_with fail
  refine bodyPost_ret (by simp [results, Tryz.results26, go_sem, c0, c1, c2]; try rfl) rfl ?_
  exact ⟨rfl, by go_grown⟩
end Go.Proofs.YtlgghcffmnofdaaGreatDoor.Ke
