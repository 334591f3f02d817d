/-
  Plain facts, no program in sight: where a byte first stands in a list, as a number, or -1.
-/
import Derived.WalkKit
namespace Go.Proofs.YtlgghcffmnofdaaGreatDoor.Cn

/-- Where a rune first stands among some bytes, from a place on; -1: nowhere. -/
def at_ (l : List UInt8) (r : Int) (k : Nat) : Int :=
  match l with
  | [] => -1
  | c :: t => if (c.toNat : Int) = r then k else at_ t r (k + 1)

theorem at_step (s : ByteArray) (r : Int) (k : Nat) (h : k < s.size) :
    at_ (s.data.toList.drop k) r k = if ((s[k]'h).toNat : Int) = r then (k : Int) else at_ (s.data.toList.drop (k + 1)) r (k + 1) := by
  rw [List.drop_eq_getElem_cons (by simpa using h)]
  simp only [at_]
  rfl

theorem at_end (s : ByteArray) (r : Int) (k : Nat) (h : ¬ k < s.size) : at_ (s.data.toList.drop k) r k = -1 := by
  rw [List.drop_eq_nil_of_le (by simp; omega)]
  rfl

theorem at_lt (l : List UInt8) (r : Int) (k : Nat) : at_ l r k < k + l.length := by
  induction l generalizing k with
  | nil => simp [at_]; omega
  | cons c t ih =>
    simp only [at_]
    split
    · simp; omega
    · have := ih (k + 1); simp; omega

theorem at_ge (l : List UInt8) (r : Int) (k : Nat) : at_ l r k = -1 ∨ (k : Int) ≤ at_ l r k := by
  induction l generalizing k with
  | nil => exact .inl rfl
  | cons c t ih =>
    simp only [at_]
    split
    · exact .inr (Int.le_refl _)
    · rcases ih (k + 1) with h | h
      · exact .inl h
      · exact .inr (by omega)

/-- No sign of ASCII signs is a rune from 128 on. -/
theorem at_high (l : List UInt8) (r : Int) (k : Nat) (hl : ∀ c ∈ l, c.toNat < 128) (hr : 128 ≤ r) : at_ l r k = -1 := by
  induction l generalizing k with
  | nil => rfl
  | cons c t ih =>
    simp only [at_]
    have := hl c (by simp)
    rw [if_neg (by omega)]
    exact ih (k + 1) (fun c hc => hl c (by simp [hc]))

/-- The bytes of a text in an alphabet's signs, each telling b bits: what is out, what is held, how many bits that are. -/
def dec (sg : List UInt8) (b : Nat) : List UInt8 → List UInt8 → Nat → Nat → Option (List UInt8 × Nat × Nat)
  | [], out, h, m => some (out, h, m)
  | c :: t, out, h, m =>
    if at_ sg c.toNat 0 < 0 then none
    else if 8 ≤ m + b then
      dec sg b t (out ++ [UInt8.ofNat ((h * 2 ^ b + (at_ sg c.toNat 0).toNat) / 2 ^ (m + b - 8))]) ((h * 2 ^ b + (at_ sg c.toNat 0).toNat) % 2 ^ (m + b - 8)) (m + b - 8)
    else dec sg b t out (h * 2 ^ b + (at_ sg c.toNat 0).toNat) (m + b)

theorem drop_at (s : ByteArray) (k : Nat) (h : k < s.size) : s.data.toList.drop k = s[k] :: s.data.toList.drop (k + 1) := by
  rw [List.drop_eq_getElem_cons (by simpa using h)]
  rfl

/-- Bytes as cells. -/
def cs (l : List UInt8) : List Value := l.map fun c => Value.int .u8 c.toNat
theorem cs_length (l : List UInt8) : (cs l).length = l.length := by simp [cs]
theorem cs_append (l m : List UInt8) : cs (l ++ m) = cs l ++ cs m := by simp [cs]
/-- Bytes in an alphabet's signs, each telling b bits: what is held, how many bits that are, what is out; f: more than enough rounds. -/
def enc (sg : List UInt8) (b : Nat) : Nat → List UInt8 → Nat → Nat → List UInt8 → List UInt8
  | 0, _, _, _, out => out
  | f + 1, l, h, n, out =>
    if b ≤ n then enc sg b f l (h % 2 ^ (n - b)) (n - b) (out ++ [sg.getD (h / 2 ^ (n - b)) 0])
    else match l with
      | [] => if 0 < n then out ++ [sg.getD (h * 2 ^ (b - n)) 0] else out
      | c :: t => enc sg b f t (h * 256 + c.toNat) (n + 8) out

theorem enc_emit {sg : List UInt8} {b f : Nat} {l : List UInt8} {h n : Nat} {out : List UInt8} (hn : b ≤ n) : enc sg b (f + 1) l h n out = enc sg b f l (h % 2 ^ (n - b)) (n - b) (out ++ [sg.getD (h / 2 ^ (n - b)) 0]) := by
  cases l <;> simp only [enc, if_pos hn]

theorem enc_byte {sg : List UInt8} {b f : Nat} {c : UInt8} {t : List UInt8} {h n : Nat} {out : List UInt8} (hn : ¬ b ≤ n) : enc sg b (f + 1) (c :: t) h n out = enc sg b f t (h * 256 + c.toNat) (n + 8) out := by
  simp only [enc, if_neg hn]

theorem enc_nil {sg : List UInt8} {b f : Nat} {h n : Nat} {out : List UInt8} (hn : ¬ b ≤ n) : enc sg b (f + 1) [] h n out = if 0 < n then out ++ [sg.getD (h * 2 ^ (b - n)) 0] else out := by
  simp only [enc, if_neg hn]

/-- A slice of bytes: what its cells hold. -/
def Bsl (w : World) (v : Value) (l : List UInt8) : Prop :=
  ∃ a cap, v = .slice a l.length cap ∧ l.length ≤ cap ∧ ∀ (j : Nat) (h : j < l.length), ∃ b off, a = some ⟨b, off, none⟩ ∧ w.cell? ⟨b, off + j, none⟩ = some (.int .u8 (l[j]'h).toNat)

end Go.Proofs.YtlgghcffmnofdaaGreatDoor.Cn
