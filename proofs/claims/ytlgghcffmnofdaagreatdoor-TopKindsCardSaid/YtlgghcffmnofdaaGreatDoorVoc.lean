/-
  Words that all walks share, over any program: what a call that only makes memory leaves; sums of bits.
-/
import Derived.WalkKit
import Derived.Lib.OthersKept
import Derived.Lib.Hide
import Derived.WalkSmall
namespace Go.Proofs.YtlgghcffmnofdaaGreatDoor.Vo
open Go.RowKit

/-- Two endings with the same number. -/
theorem ret_int {k : IntKind} {a b : Int} (h : a = b) : Ending.returned (.int k a) = .returned (.int k b) := by rw [h]

/-- An owned row behind a call that leaves all that lay as it was. -/
theorem owns_below {w w' : World} {base : Nat} {e : TypeId} {size : Nat} {v : Value} {n : Nat} {xs : List Value} (h : w.ownsRow base e size v n xs) (hb : Below w.heap.size w w') : w'.ownsRow base e size v n xs :=
  h.kept (row := none) ⟨hb.os, hb.tape, hb.output, hb.size, fun k hk _ => hb.block k hk⟩ (by cases v.ownBlock <;> simp)

/-- An owned row while a string's iterator moves on. -/
theorem owns_iterAt {w : World} {base : Nat} {e : TypeId} {size : Nat} {v : Value} {n : Nat} {xs : List Value} (h : w.ownsRow base e size v n xs) {k : Nat} {s : ByteArray} {pos : Nat} (hk : w.heap[k]? = some (.stringIter s pos)) (pos' : Nat) :
    (w.iterAt k s pos').ownsRow base e size v n xs := by
  refine ⟨h.1, ?_⟩
  rcases h.2 with hn | ⟨g, cap, cur, hv, hb, hg, rest⟩
  · exact .inl hn
  · refine .inr ⟨g, cap, cur, hv, hb, ?_, rest⟩
    have hkg : g ≠ k := by
      intro e1
      rw [e1, hk] at hg
      cases hg
    rw [Lib.iterAt_other _ _ _ _ _ hkg]
    exact hg

theorem heap_lt {w : World} {k : Nat} {o : Obj} (h : w.heap[k]? = some o) : k < w.heap.size := (Array.getElem?_eq_some_iff.1 h).1

theorem below_drewN {B : Nat} {a w : World} (h : Below B a w) (n : Nat) : Below B a (w.drewN n) := h.trans ⟨rfl, rfl, rfl, Nat.le_refl _, fun _ _ => rfl⟩

/-- A block behind a call that leaves all that lay as it was. -/
theorem heap_below {w w' : World} {k : Nat} {o : Obj} (h : w.heap[k]? = some o) (hb : Below w.heap.size w w') : w'.heap[k]? = some o :=
  (hb.block k (heap_lt h)).trans h

/-- A block behind an append to a row of the call's own. -/
theorem heap_grown {w w' : World} {k : Nat} {o : Obj} {row : Option Nat} (h : w.heap[k]? = some o) (hg : w.grownBy w' row) (hne : ∀ g, row = some g → g ≠ k) : w'.heap[k]? = some o :=
  (hg.block k (heap_lt h) (fun e => hne k e.symm rfl)).trans h

theorem own_base {w : World} {base : Nat} {e : TypeId} {size : Nat} {v : Value} {n : Nat} {xs : List Value} (h : w.ownsRow base e size v n xs) {k : Nat} (hk : k < base) : ∀ g, v.ownBlock = some g → g ≠ k :=
  fun g hg => by have := (h.lt g hg).1; omega

theorem own_ge {w : World} {base : Nat} {e : TypeId} {size : Nat} {v : Value} {n : Nat} {xs : List Value} (h : w.ownsRow base e size v n xs) {B : Nat} (hB : B ≤ base) : ∀ g, v.ownBlock = some g → B ≤ g :=
  fun g hg => by have := (h.lt g hg).1; omega

/-- A row that is owned from a base on is owned from a lower one on. -/
theorem owns_base {w : World} {base base' : Nat} {e : TypeId} {size : Nat} {v : Value} {n : Nat} {xs : List Value} (h : w.ownsRow base e size v n xs) (hb : base' ≤ base) : w.ownsRow base' e size v n xs := by
  refine ⟨h.1, ?_⟩
  rcases h.2 with hn | ⟨g, cap, cur, hv, hbg, rest⟩
  · exact .inl hn
  · exact .inr ⟨g, cap, cur, hv, by omega, rest⟩

theorem i64_wraps (n : Int) (h₀ : 0 ≤ n) (h₁ : n < 2 ^ 62) : IntKind.i64.wrap n = n := by rw [IntKind.wrap_i64]; omega

/-- 'x | y' where y lies below a power of 2 that x is a multiple of. -/
theorem or_i64 (i : Nat) (x y : Nat) (hx : x % 2 ^ i = 0) (hx1 : x < 2 ^ 62) (hy : y < 2 ^ i) (hy1 : y < 2 ^ 62) : bits .or .i64 (x : Int) (y : Int) = ((x + y : Nat) : Int) := by
  rw [bits_join .i64 62 (by decide) i64_wraps i x y (by omega) (by exact_mod_cast congrArg Nat.cast hx) (by exact_mod_cast hx1) (by omega) (by exact_mod_cast hy) (by exact_mod_cast hy1)]
  omega

/-- 'x & (1<<i - 1)'. -/
theorem and_i64 (i : Nat) (hi : i ≤ 62) (x : Nat) (hx : x < 2 ^ 62) : bits .and .i64 (x : Int) (2 ^ i - 1) = ((x % 2 ^ i : Nat) : Int) := by
  rw [bits_mask .i64 62 (by decide) i64_wraps i hi x (by omega) (by exact_mod_cast hx)]
  exact_mod_cast rfl

/-- A text's byte at a place that lies in it. -/
theorem run_index_string {P : Program} {t : TypeId} (ht : P.underlying t = some .string) (s : ByteArray) (k : IntKind) (i : Int) (h0 : 0 ≤ i) (h : i.toNat < s.size) (w : World) :
    (Instr.index t (.string s) (.int k i)).run P w = .ok (.int .u8 ((s.data.toList.getD i.toNat 0).toNat : Nat)) w := by
  have e : s[i.toNat]? = some (s[i.toNat]'h) := by simp [h]
  have e2 : s.data.toList.getD i.toNat 0 = s[i.toNat]'h := by
    rw [List.getD_eq_getElem?_getD, List.getElem?_eq_getElem (by simpa using h)]; rfl
  rw [e2]
  simp [Instr.index, asIntOf, run_underlying ht, h0, e]
end Go.Proofs.YtlgghcffmnofdaaGreatDoor.Vo
